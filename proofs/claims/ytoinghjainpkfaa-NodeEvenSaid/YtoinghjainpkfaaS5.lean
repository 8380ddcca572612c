import Derived.Test.YtoinghjainpkfaaS4
import Derived.Lib.Bytes
/- What the claim hangs on, part 5: SA SB SC SD SE SF NA NB NC NP ND NE NF NG. -/
set_option linter.unusedVariables false
set_option linter.unusedSimpArgs false
set_option maxRecDepth 100000
namespace Go.VI
attribute [local congr] AW_congr OW_congr DW_congr NW_congr VW_congr GW_congr PW_congr KW_congr ite_congr' GV_congr CV_congr
abbrev Bytes := List Int
structure ItemM where
  key : Bytes
  value : Bytes
  size : Int
  ref : Int
structure KidM where
  key : Bytes
  ref : Int
structure NodeM where
  leaf : Bool
  items : List ItemM
  kids : List KidM
structure NamedM where
  ref : Int
  n : NodeM
structure StepM where
  ref : Int
  n : NodeM
  k : Int
def MX : Nat := 140737488355328
def int (n : Int) : AV := .sc (.int .i64 n)
def boolA (b : Bool) : AV := .sc (.bool b)
def byteC (n : Int) : List AV := [.sc (.int .u8 n)]
def encB (l : Bytes) : AV := .lst (l.map byteC)
def itemC (x : ItemM) : List AV := [encB x.key, encB x.value, int x.size, int x.ref]
def encI (l : List ItemM) : AV := .lst (l.map itemC)
def kidC (x : KidM) : List AV := [encB x.key, int x.ref]
def encK (l : List KidM) : AV := .lst (l.map kidC)
def nodeC (n : NodeM) : List AV := [boolA n.leaf, encI n.items, encK n.kids]
def namedC (x : NamedM) : List AV := int x.ref :: nodeC x.n
def encL (l : List NamedM) : AV := .lst (l.map namedC)
def stepC (x : StepM) : List AV := [int x.ref, boolA x.n.leaf, encI x.n.items, encK x.n.kids, int x.k]
def encS (l : List StepM) : AV := .lst (l.map stepC)
section
variable {H : Heap} {K : Heap} {L : List Blk}
theorem len_byteC (n : Int) : (byteC n).length = 1 := rfl
theorem len_itemC (x : ItemM) : (itemC x).length = 4 := rfl
theorem len_kidC (x : KidM) : (kidC x).length = 2 := rfl
theorem len_namedC (x : NamedM) : (namedC x).length = 4 := rfl
theorem len_stepC (x : StepM) : (stepC x).length = 5 := rfl
theorem lenB (l : Bytes) : lenV H 0 (encB l) = some (.sc (.int .i64 (l.length : Int)), H) := by simp [lenV, lenOfA, encB]
theorem lenI (l : List ItemM) : lenV H 0 (encI l) = some (.sc (.int .i64 (l.length : Int)), H) := by simp [lenV, lenOfA, encI]
theorem lenK (l : List KidM) : lenV H 0 (encK l) = some (.sc (.int .i64 (l.length : Int)), H) := by simp [lenV, lenOfA, encK]
theorem lenL (l : List NamedM) : lenV H 0 (encL l) = some (.sc (.int .i64 (l.length : Int)), H) := by simp [lenV, lenOfA, encL]
theorem lenS (l : List StepM) : lenV H 0 (encS l) = some (.sc (.int .i64 (l.length : Int)), H) := by simp [lenV, lenOfA, encS]
theorem atB {l : Bytes} {i : Nat} (h : i < l.length) : iaddrA H none 1 (encB l) (i : Int) = some (.pim (l.map byteC) i 0) := iaddr_map h len_byteC
theorem atI {l : List ItemM} {i : Nat} (h : i < l.length) : iaddrA H none 4 (encI l) (i : Int) = some (.pim (l.map itemC) i 0) := iaddr_map h len_itemC
theorem atK {l : List KidM} {i : Nat} (h : i < l.length) : iaddrA H none 2 (encK l) (i : Int) = some (.pim (l.map kidC) i 0) := iaddr_map h len_kidC
theorem cB {l : Bytes} {i off n : Nat} (h : i < l.length) : cellsAt H (.pim (l.map byteC) i off) n = if off + n ≤ 1 then some (((byteC l[i]).drop off).take n) else none := cells_map h
theorem cI {l : List ItemM} {i off n : Nat} (h : i < l.length) : cellsAt H (.pim (l.map itemC) i off) n = if off + n ≤ 4 then some (((itemC l[i]).drop off).take n) else none := cells_map h
theorem cK {l : List KidM} {i off n : Nat} (h : i < l.length) : cellsAt H (.pim (l.map kidC) i off) n = if off + n ≤ 2 then some (((kidC l[i]).drop off).take n) else none := cells_map h
end
section
theorem zi (n : Nat) (H : Heap) (x : ItemM) : frz.frzL (n + 6) H (itemC x) = some (itemC x, H) := rfl
theorem zk (n : Nat) (H : Heap) (x : KidM) : frz.frzL (n + 4) H (kidC x) = some (kidC x, H) := rfl
theorem zn (n : Nat) (H : Heap) (x : NodeM) : frz.frzL (n + 5) H (nodeC x) = some (nodeC x, H) := rfl
theorem zm (n : Nat) (H : Heap) (x : NamedM) : frz.frzL (n + 6) H (namedC x) = some (namedC x, H) := rfl
theorem zs (n : Nat) (H : Heap) (x : StepM) : frz.frzL (n + 7) H (stepC x) = some (stepC x, H) := rfl
theorem fz_i (H : Heap) (x : ItemM) : frz.frzL 24 H (itemC x) = some (itemC x, H) := rfl
theorem fz_k (H : Heap) (x : KidM) : frz.frzL 24 H (kidC x) = some (kidC x, H) := rfl
theorem i_all (x : ItemM) : (itemC x).take 4 = itemC x := rfl
theorem i_0 (x : ItemM) : (itemC x).take 1 = [encB x.key] := rfl
theorem i_1 (x : ItemM) : ((itemC x).drop 1).take 1 = [encB x.value] := rfl
theorem i_2 (x : ItemM) : ((itemC x).drop 2).take 1 = [int x.size] := rfl
theorem i_3 (x : ItemM) : ((itemC x).drop 3).take 1 = [int x.ref] := rfl
theorem i_one (x : ItemM) : oneAll (itemC x) = true := rfl
theorem k_all (x : KidM) : (kidC x).take 2 = kidC x := rfl
theorem k_0 (x : KidM) : (kidC x).take 1 = [encB x.key] := rfl
theorem k_1 (x : KidM) : ((kidC x).drop 1).take 1 = [int x.ref] := rfl
theorem k_one (x : KidM) : oneAll (kidC x) = true := rfl
theorem n_all (x : NodeM) : (nodeC x).take 3 = nodeC x := rfl
theorem n_0 (x : NodeM) : (nodeC x).take 1 = [boolA x.leaf] := rfl
theorem n_1 (x : NodeM) : ((nodeC x).drop 1).take 1 = [encI x.items] := rfl
theorem n_2 (x : NodeM) : ((nodeC x).drop 2).take 1 = [encK x.kids] := rfl
theorem n_one (x : NodeM) : oneAll (nodeC x) = true := rfl
theorem len_nodeC (x : NodeM) : (nodeC x).length = 3 := rfl
theorem m_all (x : NamedM) : (namedC x).take 4 = namedC x := rfl
theorem m_0 (x : NamedM) : (namedC x).take 1 = [int x.ref] := rfl
theorem m_n (x : NamedM) : ((namedC x).drop 1).take 3 = nodeC x.n := rfl
theorem m_1 (x : NamedM) : ((namedC x).drop 1).take 1 = [boolA x.n.leaf] := rfl
theorem m_2 (x : NamedM) : ((namedC x).drop 2).take 1 = [encI x.n.items] := rfl
theorem m_3 (x : NamedM) : ((namedC x).drop 3).take 1 = [encK x.n.kids] := rfl
theorem m_one (x : NamedM) : oneAll (namedC x) = true := rfl
theorem s_all (x : StepM) : (stepC x).take 5 = stepC x := rfl
theorem s_0 (x : StepM) : (stepC x).take 1 = [int x.ref] := rfl
theorem s_n (x : StepM) : ((stepC x).drop 1).take 3 = nodeC x.n := rfl
theorem s_1 (x : StepM) : ((stepC x).drop 1).take 1 = [boolA x.n.leaf] := rfl
theorem s_2 (x : StepM) : ((stepC x).drop 2).take 1 = [encI x.n.items] := rfl
theorem s_3 (x : StepM) : ((stepC x).drop 3).take 1 = [encK x.n.kids] := rfl
theorem s_4 (x : StepM) : ((stepC x).drop 4).take 1 = [int x.k] := rfl
theorem s_one (x : StepM) : oneAll (stepC x) = true := rfl
theorem frz_B (n : Nat) (H : Heap) (l : Bytes) : frz (n + 1) H (encB l) = some (encB l, H) := rfl
theorem frz_I (n : Nat) (H : Heap) (l : List ItemM) : frz (n + 1) H (encI l) = some (encI l, H) := rfl
theorem frz_K (n : Nat) (H : Heap) (l : List KidM) : frz (n + 1) H (encK l) = some (encK l, H) := rfl
theorem frz_L (n : Nat) (H : Heap) (l : List NamedM) : frz (n + 1) H (encL l) = some (encL l, H) := rfl
theorem frz_S (n : Nat) (H : Heap) (l : List StepM) : frz (n + 1) H (encS l) = some (encS l, H) := rfl
theorem one_B (l : Bytes) : (encB l).one = true := rfl
theorem one_I (l : List ItemM) : (encI l).one = true := rfl
theorem one_K (l : List KidM) : (encK l).one = true := rfl
theorem one_L (l : List NamedM) : (encL l).one = true := rfl
theorem one_S (l : List StepM) : (encS l).one = true := rfl
theorem cs_B (l : Bytes) : (encB l).cells = [encB l] := rfl
theorem cs_I (l : List ItemM) : (encI l).cells = [encI l] := rfl
theorem cs_K (l : List KidM) : (encK l).cells = [encK l] := rfl
theorem cs_L (l : List NamedM) : (encL l).cells = [encL l] := rfl
theorem cs_S (l : List StepM) : (encS l).cells = [encS l] := rfl
set_option linter.defProp false
def da := (⟨@zi, @zk, @zn, @zm, @zs, @fz_i, @fz_k, @lenB, @lenI, @lenK, @lenL, @lenS, @i_all, @i_0, @i_1, @i_2, @i_3, @i_one, @k_all, @k_0, @k_1, @k_one, @n_all, @n_0, @n_1, @n_2, @n_one, @len_nodeC, @m_all, @m_0, @m_n, @m_1, @m_2, @m_3, @m_one, @s_all, @s_0, @s_n, @s_1, @s_2, @s_3, @s_4, @s_one, @len_itemC, @len_kidC, @len_namedC, @len_stepC, @frz_B, @frz_I, @frz_K, @frz_L, @frz_S, @one_B, @one_I, @one_K, @one_L, @one_S, @cs_B, @cs_I, @cs_K, @cs_L, @cs_S⟩ : _ ∧ _ ∧ _ ∧ _ ∧ _ ∧ _ ∧ _ ∧ _ ∧ _ ∧ _ ∧ _ ∧ _ ∧ _ ∧ _ ∧ _ ∧ _ ∧ _ ∧ _ ∧ _ ∧ _ ∧ _ ∧ _ ∧ _ ∧ _ ∧ _ ∧ _ ∧ _ ∧ _ ∧ _ ∧ _ ∧ _ ∧ _ ∧ _ ∧ _ ∧ _ ∧ _ ∧ _ ∧ _ ∧ _ ∧ _ ∧ _ ∧ _ ∧ _ ∧ _ ∧ _ ∧ _ ∧ _ ∧ _ ∧ _ ∧ _ ∧ _ ∧ _ ∧ _ ∧ _ ∧ _ ∧ _ ∧ _ ∧ _ ∧ _ ∧ _ ∧ _ ∧ _)
end
theorem cmpB_end {a b : Bytes} {i : Nat} (h : a.length ≤ i ∨ b.length ≤ i) (hia : i ≤ a.length) (hib : i ≤ b.length) : cmpB (a.drop i) (b.drop i) = if a.length < b.length then -1 else if b.length < a.length then 1 else 0 := by
  by_cases ha : a.length = i
  · rw [List.drop_eq_nil_of_le (by omega)]
    by_cases hb : b.length = i
    · rw [List.drop_eq_nil_of_le (by omega), if_neg (by omega), if_neg (by omega)]
      rfl
    · rw [List.drop_eq_getElem_cons (by omega : i < b.length), if_pos (by omega)]
      rfl
  · have hb : b.length = i := by omega
    rw [List.drop_eq_nil_of_le (by omega : b.length ≤ i), List.drop_eq_getElem_cons (by omega : i < a.length), if_neg (by omega), if_pos (by omega)]
    rfl
theorem cmpB_step {a b : Bytes} {i : Nat} (ha : i < a.length) (hb : i < b.length) : cmpB (a.drop i) (b.drop i) = if a[i] < b[i] then -1 else if b[i] < a[i] then 1 else cmpB (a.drop (i + 1)) (b.drop (i + 1)) := by
  rw [List.drop_eq_getElem_cons ha, List.drop_eq_getElem_cons hb]
  rfl
theorem l89 (a b : Bytes) (ha : a.length < MX) (hb : b.length < MX) {H : Heap} {L : List Blk} {Q : AExit → Env → Heap → Prop}
   (hex : ∀ f', f' 0 = encB a → f' 1 = encB b → cmpB a b = (if a.length < b.length then -1 else if b.length < a.length then 1 else 0) → Q (.exit 0) (mkE 46 f') (hx H L))
   (hret : ∀ f', f' 4 = int (cmpB a b) → Q .ret (mkE 46 f') (hx H L)) : ∀ (d i : Nat) (f : Nat → AV), i + d = a.length → i ≤ b.length → cmpB a b = cmpB (a.drop i) (b.drop i) → f 0 = encB a → f 1 = encB b → f 5 = int i →
    AW ft (.loop c89L0) (mkE 46 f) (hx H L) Q := by
  intro d
  unfold MX at ha hb
  induction d with
  | zero =>
    intro i f hd hib hc h0 h1 h5
    have g : ((i : Int) < a.length) = False := by simp; omega
    rw [AW_loop]
    unfold c89L0
    simp only [↓vp, vq0, vq1, vq2, vq3, vr0, vr1, vr2, vr3, vr4, vr5, vr6, vr7, vr8, vr9, vr10, vr11, vr12, vr13, vr14, vr15, vr16, vr17, vr18, vr19, vr20, vr21, vr22, vr23, vr24, vr25, vr26, vr27, vr28, vr29, vr30, vr31, vr32, vr33, vr34, opS, fpS, okP, pack, nAl, allocA, shId, leaves, fillA, fillR, splice, Nat.reduceLT, Nat.reduceEqDiff, Nat.reduceLeDiff, Nat.reduceAdd, Nat.reduceSub, Nat.reduceMul, Int.reduceBEq, Int.reduceBNe, Int.reduceLT, Int.reduceLE, Int.reduceEq, reduceIte, reduceCtorEq, lenB, int, h0, h1, h5, g]
    exact hex _ h0 h1 (hc.trans (cmpB_end (by omega) (by omega) (by omega)))
  | succ d ih =>
    intro i f hd hib hc h0 h1 h5
    have g : ((i : Int) < a.length) = True := by simp; omega
    have gi : i < a.length := by omega
    rw [AW_loop]
    unfold c89L0
    by_cases hb' : i < b.length
    · have g2 : ((i : Int) < b.length) = True := by simp; omega
      have hs := cmpB_step gi hb'
      simp only [↓vp, vq0, vq1, vq2, vq3, vr0, vr1, vr2, vr3, vr4, vr5, vr6, vr7, vr8, vr9, vr10, vr11, vr12, vr13, vr14, vr15, vr16, vr17, vr18, vr19, vr20, vr21, vr22, vr23, vr24, vr25, vr26, vr27, vr28, vr29, vr30, vr31, vr32, vr33, vr34, opS, fpS, okP, pack, nAl, allocA, shId, leaves, fillA, fillR, splice, Nat.reduceLT, Nat.reduceEqDiff, Nat.reduceLeDiff, Nat.reduceAdd, Nat.reduceSub, Nat.reduceMul, Int.reduceBEq, Int.reduceBNe, Int.reduceLT, Int.reduceLE, Int.reduceEq, reduceIte, reduceCtorEq, lenB, int, h0, h1, h5, g, g2, atB gi, atB hb', cB gi, cB hb', byteC, wrap_succ (show i < 9223372036854775807 by omega)]
      split
      · rename_i hlt
        refine hret _ ?_
        simp only [↓vp, vq0, vq1, vq2, vq3, vr0, vr1, vr2, vr3, vr4, vr5, vr6, vr7, vr8, vr9, vr10, vr11, vr12, vr13, vr14, vr15, vr16, vr17, vr18, vr19, vr20, vr21, vr22, vr23, vr24, vr25, vr26, vr27, vr28, vr29, vr30, vr31, vr32, vr33, vr34, opS, fpS, okP, pack, nAl, allocA, shId, leaves, fillA, fillR, splice, Nat.reduceLT, Nat.reduceEqDiff, Nat.reduceLeDiff, Nat.reduceAdd, Nat.reduceSub, Nat.reduceMul, Int.reduceBEq, Int.reduceBNe, Int.reduceLT, Int.reduceLE, Int.reduceEq, reduceIte, reduceCtorEq]
        rw [hc, hs, if_pos hlt]
        rfl
      · rename_i hnl
        split
        · rename_i hgt
          refine hret _ ?_
          simp only [↓vp, vq0, vq1, vq2, vq3, vr0, vr1, vr2, vr3, vr4, vr5, vr6, vr7, vr8, vr9, vr10, vr11, vr12, vr13, vr14, vr15, vr16, vr17, vr18, vr19, vr20, vr21, vr22, vr23, vr24, vr25, vr26, vr27, vr28, vr29, vr30, vr31, vr32, vr33, vr34, opS, fpS, okP, pack, nAl, allocA, shId, leaves, fillA, fillR, splice, Nat.reduceLT, Nat.reduceEqDiff, Nat.reduceLeDiff, Nat.reduceAdd, Nat.reduceSub, Nat.reduceMul, Int.reduceBEq, Int.reduceBNe, Int.reduceLT, Int.reduceLE, Int.reduceEq, reduceIte, reduceCtorEq]
          rw [hc, hs, if_neg hnl, if_pos hgt]
          rfl
        · rename_i hng
          refine ih (i + 1) _ (by omega) (by omega) ?_ ?_ ?_ ?_
          · rw [hc, hs, if_neg hnl, if_neg hng]
          · simp only [↓vp, vq0, vq1, vq2, vq3, vr0, vr1, vr2, vr3, vr4, vr5, vr6, vr7, vr8, vr9, vr10, vr11, vr12, vr13, vr14, vr15, vr16, vr17, vr18, vr19, vr20, vr21, vr22, vr23, vr24, vr25, vr26, vr27, vr28, vr29, vr30, vr31, vr32, vr33, vr34, opS, fpS, okP, pack, nAl, allocA, shId, leaves, fillA, fillR, splice, Nat.reduceLT, Nat.reduceEqDiff, Nat.reduceLeDiff, Nat.reduceAdd, Nat.reduceSub, Nat.reduceMul, Int.reduceBEq, Int.reduceBNe, Int.reduceLT, Int.reduceLE, Int.reduceEq, reduceIte, reduceCtorEq, h0]
          · simp only [↓vp, vq0, vq1, vq2, vq3, vr0, vr1, vr2, vr3, vr4, vr5, vr6, vr7, vr8, vr9, vr10, vr11, vr12, vr13, vr14, vr15, vr16, vr17, vr18, vr19, vr20, vr21, vr22, vr23, vr24, vr25, vr26, vr27, vr28, vr29, vr30, vr31, vr32, vr33, vr34, opS, fpS, okP, pack, nAl, allocA, shId, leaves, fillA, fillR, splice, Nat.reduceLT, Nat.reduceEqDiff, Nat.reduceLeDiff, Nat.reduceAdd, Nat.reduceSub, Nat.reduceMul, Int.reduceBEq, Int.reduceBNe, Int.reduceLT, Int.reduceLE, Int.reduceEq, reduceIte, reduceCtorEq, h1]
          · simp only [↓vp, vq0, vq1, vq2, vq3, vr0, vr1, vr2, vr3, vr4, vr5, vr6, vr7, vr8, vr9, vr10, vr11, vr12, vr13, vr14, vr15, vr16, vr17, vr18, vr19, vr20, vr21, vr22, vr23, vr24, vr25, vr26, vr27, vr28, vr29, vr30, vr31, vr32, vr33, vr34, opS, fpS, okP, pack, nAl, allocA, shId, leaves, fillA, fillR, splice, Nat.reduceLT, Nat.reduceEqDiff, Nat.reduceLeDiff, Nat.reduceAdd, Nat.reduceSub, Nat.reduceMul, Int.reduceBEq, Int.reduceBNe, Int.reduceLT, Int.reduceLE, Int.reduceEq, reduceIte, reduceCtorEq, int]
    · have g2 : ((i : Int) < b.length) = False := by simp; omega
      simp only [↓vp, vq0, vq1, vq2, vq3, vr0, vr1, vr2, vr3, vr4, vr5, vr6, vr7, vr8, vr9, vr10, vr11, vr12, vr13, vr14, vr15, vr16, vr17, vr18, vr19, vr20, vr21, vr22, vr23, vr24, vr25, vr26, vr27, vr28, vr29, vr30, vr31, vr32, vr33, vr34, opS, fpS, okP, pack, nAl, allocA, shId, leaves, fillA, fillR, splice, Nat.reduceLT, Nat.reduceEqDiff, Nat.reduceLeDiff, Nat.reduceAdd, Nat.reduceSub, Nat.reduceMul, Int.reduceBEq, Int.reduceBNe, Int.reduceLT, Int.reduceLE, Int.reduceEq, reduceIte, reduceCtorEq, lenB, int, h0, h1, h5, g, g2]
      exact hex _ h0 h1 (hc.trans (cmpB_end (by omega) (by omega) (by omega)))
theorem s89 (a b : Bytes) (ha : a.length < MX) (hb : b.length < MX) (H : Heap) : callL ft (.fn (.func 89) [] []) [encB a, encB b] H = some (int (cmpB a b), H) := by
  refine call_p (as' := [encB a, encB b]) rfl rfl (by simp) ?_
  unfold c89
  simp only [↓vp, vq0, vq1, vq2, vq3, vr0, vr1, vr2, vr3, vr4, vr5, vr6, vr7, vr8, vr9, vr10, vr11, vr12, vr13, vr14, vr15, vr16, vr17, vr18, vr19, vr20, vr21, vr22, vr23, vr24, vr25, vr26, vr27, vr28, vr29, vr30, vr31, vr32, vr33, vr34, opS, fpS, okP, pack, nAl, allocA, shId, leaves, fillA, fillR, splice, Nat.reduceLT, Nat.reduceEqDiff, Nat.reduceLeDiff, Nat.reduceAdd, Nat.reduceSub, Nat.reduceMul, Int.reduceBEq, Int.reduceBNe, Int.reduceLT, Int.reduceLE, Int.reduceEq, reduceIte, reduceCtorEq]
  refine l89 a b ha hb (fun f' h0 h1 hc => ?_) (fun f' h4 => ?_) a.length 0 _ (by omega) (by omega) rfl ?_ ?_ ?_
  · unfold c89R1
    by_cases g1 : a.length < b.length
    · have g1' : ((a.length : Int) < b.length) = True := by simp; omega
      simp only [↓vp, vq0, vq1, vq2, vq3, vr0, vr1, vr2, vr3, vr4, vr5, vr6, vr7, vr8, vr9, vr10, vr11, vr12, vr13, vr14, vr15, vr16, vr17, vr18, vr19, vr20, vr21, vr22, vr23, vr24, vr25, vr26, vr27, vr28, vr29, vr30, vr31, vr32, vr33, vr34, opS, fpS, okP, pack, nAl, allocA, shId, leaves, fillA, fillR, splice, Nat.reduceLT, Nat.reduceEqDiff, Nat.reduceLeDiff, Nat.reduceAdd, Nat.reduceSub, Nat.reduceMul, Int.reduceBEq, Int.reduceBNe, Int.reduceLT, Int.reduceLE, Int.reduceEq, reduceIte, reduceCtorEq, h0, h1, lenB, g1']
      refine ret1 rfl (by decide) ?_
      simp only [↓vp, vq0, vq1, vq2, vq3, vr0, vr1, vr2, vr3, vr4, vr5, vr6, vr7, vr8, vr9, vr10, vr11, vr12, vr13, vr14, vr15, vr16, vr17, vr18, vr19, vr20, vr21, vr22, vr23, vr24, vr25, vr26, vr27, vr28, vr29, vr30, vr31, vr32, vr33, vr34, opS, fpS, okP, pack, nAl, allocA, shId, leaves, fillA, fillR, splice, Nat.reduceLT, Nat.reduceEqDiff, Nat.reduceLeDiff, Nat.reduceAdd, Nat.reduceSub, Nat.reduceMul, Int.reduceBEq, Int.reduceBNe, Int.reduceLT, Int.reduceLE, Int.reduceEq, reduceIte, reduceCtorEq]
      rw [hc, if_pos g1]
      exact ⟨_, rfl⟩
    · have g1' : ((a.length : Int) < b.length) = False := by simp; omega
      by_cases g2 : b.length < a.length
      · have g2' : ((b.length : Int) < a.length) = True := by simp; omega
        simp only [↓vp, vq0, vq1, vq2, vq3, vr0, vr1, vr2, vr3, vr4, vr5, vr6, vr7, vr8, vr9, vr10, vr11, vr12, vr13, vr14, vr15, vr16, vr17, vr18, vr19, vr20, vr21, vr22, vr23, vr24, vr25, vr26, vr27, vr28, vr29, vr30, vr31, vr32, vr33, vr34, opS, fpS, okP, pack, nAl, allocA, shId, leaves, fillA, fillR, splice, Nat.reduceLT, Nat.reduceEqDiff, Nat.reduceLeDiff, Nat.reduceAdd, Nat.reduceSub, Nat.reduceMul, Int.reduceBEq, Int.reduceBNe, Int.reduceLT, Int.reduceLE, Int.reduceEq, reduceIte, reduceCtorEq, h0, h1, lenB, g1', g2']
        refine ret1 rfl (by decide) ?_
        simp only [↓vp, vq0, vq1, vq2, vq3, vr0, vr1, vr2, vr3, vr4, vr5, vr6, vr7, vr8, vr9, vr10, vr11, vr12, vr13, vr14, vr15, vr16, vr17, vr18, vr19, vr20, vr21, vr22, vr23, vr24, vr25, vr26, vr27, vr28, vr29, vr30, vr31, vr32, vr33, vr34, opS, fpS, okP, pack, nAl, allocA, shId, leaves, fillA, fillR, splice, Nat.reduceLT, Nat.reduceEqDiff, Nat.reduceLeDiff, Nat.reduceAdd, Nat.reduceSub, Nat.reduceMul, Int.reduceBEq, Int.reduceBNe, Int.reduceLT, Int.reduceLE, Int.reduceEq, reduceIte, reduceCtorEq]
        rw [hc, if_neg g1, if_pos g2]
        exact ⟨_, rfl⟩
      · have g2' : ((b.length : Int) < a.length) = False := by simp; omega
        simp only [↓vp, vq0, vq1, vq2, vq3, vr0, vr1, vr2, vr3, vr4, vr5, vr6, vr7, vr8, vr9, vr10, vr11, vr12, vr13, vr14, vr15, vr16, vr17, vr18, vr19, vr20, vr21, vr22, vr23, vr24, vr25, vr26, vr27, vr28, vr29, vr30, vr31, vr32, vr33, vr34, opS, fpS, okP, pack, nAl, allocA, shId, leaves, fillA, fillR, splice, Nat.reduceLT, Nat.reduceEqDiff, Nat.reduceLeDiff, Nat.reduceAdd, Nat.reduceSub, Nat.reduceMul, Int.reduceBEq, Int.reduceBNe, Int.reduceLT, Int.reduceLE, Int.reduceEq, reduceIte, reduceCtorEq, h0, h1, lenB, g1', g2']
        refine ret1 rfl (by decide) ?_
        simp only [↓vp, vq0, vq1, vq2, vq3, vr0, vr1, vr2, vr3, vr4, vr5, vr6, vr7, vr8, vr9, vr10, vr11, vr12, vr13, vr14, vr15, vr16, vr17, vr18, vr19, vr20, vr21, vr22, vr23, vr24, vr25, vr26, vr27, vr28, vr29, vr30, vr31, vr32, vr33, vr34, opS, fpS, okP, pack, nAl, allocA, shId, leaves, fillA, fillR, splice, Nat.reduceLT, Nat.reduceEqDiff, Nat.reduceLeDiff, Nat.reduceAdd, Nat.reduceSub, Nat.reduceMul, Int.reduceBEq, Int.reduceBNe, Int.reduceLT, Int.reduceLE, Int.reduceEq, reduceIte, reduceCtorEq]
        rw [hc, if_neg g1, if_neg g2]
        exact ⟨_, rfl⟩
  · refine ret1 rfl (by decide) ?_
    rw [h4]
    exact ⟨_, rfl⟩
  · rfl
  · rfl
  · rfl
end Go.VI

set_option linter.unusedVariables false
set_option linter.unusedSimpArgs false
set_option maxRecDepth 100000
namespace Go.VI
attribute [local congr] AW_congr OW_congr DW_congr NW_congr VW_congr GW_congr PW_congr KW_congr ite_congr' GV_congr CV_congr
structure okB (l : Bytes) : Prop where
  n : l.length < MX
  r : byteR l = true
structure okIt (x : ItemM) : Prop where
  k : okB x.key
  v : okB x.value
structure okI (l : List ItemM) : Prop where
  n : l.length < MX
  h : ∀ x ∈ l, okIt x
structure okK (l : List KidM) : Prop where
  n : l.length < MX
  h : ∀ x ∈ l, okB x.key
structure okN (n : NodeM) : Prop where
  i : okI n.items
  k : okK n.kids
structure okL (l : List NamedM) : Prop where
  n : l.length < MX
  h : ∀ x ∈ l, okN x.n
theorem okI.at_ {l : List ItemM} (h : okI l) {i : Nat} (hi : i < l.length) : okIt l[i] := h.h _ (List.getElem_mem hi)
theorem okK.at_ {l : List KidM} (h : okK l) {i : Nat} (hi : i < l.length) : okB l[i].key := h.h _ (List.getElem_mem hi)
theorem okL.at_ {l : List NamedM} (h : okL l) {i : Nat} (hi : i < l.length) : okN l[i].n := h.h _ (List.getElem_mem hi)
theorem k89 {a b : Bytes} (ha : okB a) (hb : okB b) {K : Heap} {L : List Blk} {Q : AV → Heap → Prop} : KW ft (.fn (.func 89) [] []) [encB a, encB b] (hx K L) Q ↔ Q (int (cmpB a b)) (hx K L) := KW_of (s89 a b ha.n hb.n _)
def sameI (x y : ItemM) : Bool := cmpB x.key y.key == 0 && cmpB x.value y.value == 0 && x.size == y.size && x.ref == y.ref
theorem s88 (x y : ItemM) (hx_ : okIt x) (hy : okIt y) (H : Heap) : callL ft (.fn (.func 88) [] []) [.agg (itemC x), .agg (itemC y)] H = some (boolA (sameI x y), H) := by
  refine call_p (as' := [.agg (itemC x), .agg (itemC y)]) rfl rfl (by simp) ?_
  unfold c88 r88
  have h1 := hx_.k
  have h2 := hx_.v
  have h3 := hy.k
  have h4 := hy.v
  cases e1 : cmpB x.key y.key == 0 with
  | false =>
    simp only [↓vp, vq0, vq1, vq2, vq3, vr0, vr1, vr2, vr3, vr4, vr5, vr6, vr7, vr8, vr9, vr10, vr11, vr12, vr13, vr14, vr15, vr16, vr17, vr18, vr19, vr20, vr21, vr22, vr23, vr24, vr25, vr26, vr27, vr28, vr29, vr30, vr31, vr32, vr33, vr34, opS, fpS, okP, pack, nAl, allocA, shId, leaves, fillA, fillR, splice, Nat.reduceLT, Nat.reduceEqDiff, Nat.reduceLeDiff, Nat.reduceAdd, Nat.reduceSub, Nat.reduceMul, Int.reduceBEq, Int.reduceBNe, Int.reduceLT, Int.reduceLE, Int.reduceEq, reduceIte, reduceCtorEq, itemC, int, one_B, k89, h1, h2, h3, h4, e1]
    refine ret1 rfl (by decide) ?_
    simp only [↓vp, vq0, vq1, vq2, vq3, vr0, vr1, vr2, vr3, vr4, vr5, vr6, vr7, vr8, vr9, vr10, vr11, vr12, vr13, vr14, vr15, vr16, vr17, vr18, vr19, vr20, vr21, vr22, vr23, vr24, vr25, vr26, vr27, vr28, vr29, vr30, vr31, vr32, vr33, vr34, opS, fpS, okP, pack, nAl, allocA, shId, leaves, fillA, fillR, splice, Nat.reduceLT, Nat.reduceEqDiff, Nat.reduceLeDiff, Nat.reduceAdd, Nat.reduceSub, Nat.reduceMul, Int.reduceBEq, Int.reduceBNe, Int.reduceLT, Int.reduceLE, Int.reduceEq, reduceIte, reduceCtorEq]
    exact ⟨_, by simp only [sameI, e1]; rfl⟩
  | true =>
    cases e2 : cmpB x.value y.value == 0 with
    | false =>
      simp only [↓vp, vq0, vq1, vq2, vq3, vr0, vr1, vr2, vr3, vr4, vr5, vr6, vr7, vr8, vr9, vr10, vr11, vr12, vr13, vr14, vr15, vr16, vr17, vr18, vr19, vr20, vr21, vr22, vr23, vr24, vr25, vr26, vr27, vr28, vr29, vr30, vr31, vr32, vr33, vr34, opS, fpS, okP, pack, nAl, allocA, shId, leaves, fillA, fillR, splice, Nat.reduceLT, Nat.reduceEqDiff, Nat.reduceLeDiff, Nat.reduceAdd, Nat.reduceSub, Nat.reduceMul, Int.reduceBEq, Int.reduceBNe, Int.reduceLT, Int.reduceLE, Int.reduceEq, reduceIte, reduceCtorEq, itemC, int, one_B, k89, h1, h2, h3, h4, e1, e2]
      refine ret1 rfl (by decide) ?_
      simp only [↓vp, vq0, vq1, vq2, vq3, vr0, vr1, vr2, vr3, vr4, vr5, vr6, vr7, vr8, vr9, vr10, vr11, vr12, vr13, vr14, vr15, vr16, vr17, vr18, vr19, vr20, vr21, vr22, vr23, vr24, vr25, vr26, vr27, vr28, vr29, vr30, vr31, vr32, vr33, vr34, opS, fpS, okP, pack, nAl, allocA, shId, leaves, fillA, fillR, splice, Nat.reduceLT, Nat.reduceEqDiff, Nat.reduceLeDiff, Nat.reduceAdd, Nat.reduceSub, Nat.reduceMul, Int.reduceBEq, Int.reduceBNe, Int.reduceLT, Int.reduceLE, Int.reduceEq, reduceIte, reduceCtorEq]
      exact ⟨_, by simp only [sameI, e1, e2]; rfl⟩
    | true =>
      cases e3 : x.size == y.size with
      | false =>
        simp only [↓vp, vq0, vq1, vq2, vq3, vr0, vr1, vr2, vr3, vr4, vr5, vr6, vr7, vr8, vr9, vr10, vr11, vr12, vr13, vr14, vr15, vr16, vr17, vr18, vr19, vr20, vr21, vr22, vr23, vr24, vr25, vr26, vr27, vr28, vr29, vr30, vr31, vr32, vr33, vr34, opS, fpS, okP, pack, nAl, allocA, shId, leaves, fillA, fillR, splice, Nat.reduceLT, Nat.reduceEqDiff, Nat.reduceLeDiff, Nat.reduceAdd, Nat.reduceSub, Nat.reduceMul, Int.reduceBEq, Int.reduceBNe, Int.reduceLT, Int.reduceLE, Int.reduceEq, reduceIte, reduceCtorEq, itemC, int, one_B, k89, h1, h2, h3, h4, e1, e2, e3]
        refine ret1 rfl (by decide) ?_
        simp only [↓vp, vq0, vq1, vq2, vq3, vr0, vr1, vr2, vr3, vr4, vr5, vr6, vr7, vr8, vr9, vr10, vr11, vr12, vr13, vr14, vr15, vr16, vr17, vr18, vr19, vr20, vr21, vr22, vr23, vr24, vr25, vr26, vr27, vr28, vr29, vr30, vr31, vr32, vr33, vr34, opS, fpS, okP, pack, nAl, allocA, shId, leaves, fillA, fillR, splice, Nat.reduceLT, Nat.reduceEqDiff, Nat.reduceLeDiff, Nat.reduceAdd, Nat.reduceSub, Nat.reduceMul, Int.reduceBEq, Int.reduceBNe, Int.reduceLT, Int.reduceLE, Int.reduceEq, reduceIte, reduceCtorEq]
        exact ⟨_, by simp only [sameI, e1, e2, e3]; rfl⟩
      | true =>
        simp only [↓vp, vq0, vq1, vq2, vq3, vr0, vr1, vr2, vr3, vr4, vr5, vr6, vr7, vr8, vr9, vr10, vr11, vr12, vr13, vr14, vr15, vr16, vr17, vr18, vr19, vr20, vr21, vr22, vr23, vr24, vr25, vr26, vr27, vr28, vr29, vr30, vr31, vr32, vr33, vr34, opS, fpS, okP, pack, nAl, allocA, shId, leaves, fillA, fillR, splice, Nat.reduceLT, Nat.reduceEqDiff, Nat.reduceLeDiff, Nat.reduceAdd, Nat.reduceSub, Nat.reduceMul, Int.reduceBEq, Int.reduceBNe, Int.reduceLT, Int.reduceLE, Int.reduceEq, reduceIte, reduceCtorEq, itemC, int, one_B, k89, h1, h2, h3, h4, e1, e2, e3]
        refine ret1 rfl (by decide) ?_
        simp only [↓vp, vq0, vq1, vq2, vq3, vr0, vr1, vr2, vr3, vr4, vr5, vr6, vr7, vr8, vr9, vr10, vr11, vr12, vr13, vr14, vr15, vr16, vr17, vr18, vr19, vr20, vr21, vr22, vr23, vr24, vr25, vr26, vr27, vr28, vr29, vr30, vr31, vr32, vr33, vr34, opS, fpS, okP, pack, nAl, allocA, shId, leaves, fillA, fillR, splice, Nat.reduceLT, Nat.reduceEqDiff, Nat.reduceLeDiff, Nat.reduceAdd, Nat.reduceSub, Nat.reduceMul, Int.reduceBEq, Int.reduceBNe, Int.reduceLT, Int.reduceLE, Int.reduceEq, reduceIte, reduceCtorEq]
        exact ⟨_, by simp only [sameI, e1, e2, e3, Bool.true_and]; rfl⟩
def manyN (n : NodeM) : Int := if n.leaf then n.items.length else n.kids.length
theorem s34 (n : NodeM) (H : Heap) : callL ft (.fn (.func 34) [] []) [.agg (nodeC n)] H = some (int (manyN n), H) := by
  refine call_p (as' := [.agg (nodeC n)]) rfl rfl (by simp) ?_
  unfold c34 r34
  cases e : n.leaf with
  | true =>
    simp only [↓vp, vq0, vq1, vq2, vq3, vr0, vr1, vr2, vr3, vr4, vr5, vr6, vr7, vr8, vr9, vr10, vr11, vr12, vr13, vr14, vr15, vr16, vr17, vr18, vr19, vr20, vr21, vr22, vr23, vr24, vr25, vr26, vr27, vr28, vr29, vr30, vr31, vr32, vr33, vr34, opS, fpS, okP, pack, nAl, allocA, shId, leaves, fillA, fillR, splice, Nat.reduceLT, Nat.reduceEqDiff, Nat.reduceLeDiff, Nat.reduceAdd, Nat.reduceSub, Nat.reduceMul, Int.reduceBEq, Int.reduceBNe, Int.reduceLT, Int.reduceLE, Int.reduceEq, reduceIte, reduceCtorEq, nodeC, boolA, one_I, one_K, e, lenI, lenK]
    refine ret1 rfl (by decide) ?_
    simp only [↓vp, vq0, vq1, vq2, vq3, vr0, vr1, vr2, vr3, vr4, vr5, vr6, vr7, vr8, vr9, vr10, vr11, vr12, vr13, vr14, vr15, vr16, vr17, vr18, vr19, vr20, vr21, vr22, vr23, vr24, vr25, vr26, vr27, vr28, vr29, vr30, vr31, vr32, vr33, vr34, opS, fpS, okP, pack, nAl, allocA, shId, leaves, fillA, fillR, splice, Nat.reduceLT, Nat.reduceEqDiff, Nat.reduceLeDiff, Nat.reduceAdd, Nat.reduceSub, Nat.reduceMul, Int.reduceBEq, Int.reduceBNe, Int.reduceLT, Int.reduceLE, Int.reduceEq, reduceIte, reduceCtorEq, manyN, e]
    exact ⟨_, rfl⟩
  | false =>
    simp only [↓vp, vq0, vq1, vq2, vq3, vr0, vr1, vr2, vr3, vr4, vr5, vr6, vr7, vr8, vr9, vr10, vr11, vr12, vr13, vr14, vr15, vr16, vr17, vr18, vr19, vr20, vr21, vr22, vr23, vr24, vr25, vr26, vr27, vr28, vr29, vr30, vr31, vr32, vr33, vr34, opS, fpS, okP, pack, nAl, allocA, shId, leaves, fillA, fillR, splice, Nat.reduceLT, Nat.reduceEqDiff, Nat.reduceLeDiff, Nat.reduceAdd, Nat.reduceSub, Nat.reduceMul, Int.reduceBEq, Int.reduceBNe, Int.reduceLT, Int.reduceLE, Int.reduceEq, reduceIte, reduceCtorEq, nodeC, boolA, one_I, one_K, e, lenI, lenK]
    refine ret1 rfl (by decide) ?_
    simp only [↓vp, vq0, vq1, vq2, vq3, vr0, vr1, vr2, vr3, vr4, vr5, vr6, vr7, vr8, vr9, vr10, vr11, vr12, vr13, vr14, vr15, vr16, vr17, vr18, vr19, vr20, vr21, vr22, vr23, vr24, vr25, vr26, vr27, vr28, vr29, vr30, vr31, vr32, vr33, vr34, opS, fpS, okP, pack, nAl, allocA, shId, leaves, fillA, fillR, splice, Nat.reduceLT, Nat.reduceEqDiff, Nat.reduceLeDiff, Nat.reduceAdd, Nat.reduceSub, Nat.reduceMul, Int.reduceBEq, Int.reduceBNe, Int.reduceLT, Int.reduceLE, Int.reduceEq, reduceIte, reduceCtorEq, manyN, e]
    exact ⟨_, rfl⟩
end Go.VI

set_option linter.unusedVariables false
set_option linter.unusedSimpArgs false
set_option maxRecDepth 100000
namespace Go.VI
attribute [local congr] AW_congr OW_congr DW_congr NW_congr VW_congr GW_congr PW_congr KW_congr ite_congr' GV_congr CV_congr
theorem k88 {x y : ItemM} (h1 : okIt x) (h2 : okIt y) {K : Heap} {L : List Blk} {Q : AV → Heap → Prop} : KW ft (.fn (.func 88) [] []) [.agg (itemC x), .agg (itemC y)] (hx K L) Q ↔ Q (boolA (sameI x y)) (hx K L) := KW_of (s88 x y h1 h2 _)
def sameIs : List ItemM → List ItemM → Bool
  | x :: a, y :: b => sameI x y && sameIs a b
  | _, _ => true
def sameK (x y : KidM) : Bool := x.ref == y.ref && cmpB x.key y.key == 0
def sameKs : List KidM → List KidM → Bool
  | x :: a, y :: b => sameK x y && sameKs a b
  | _, _ => true
def sameN (a b : NodeM) : Bool := a.leaf == b.leaf && a.items.length == b.items.length && a.kids.length == b.kids.length && sameIs a.items b.items && sameKs a.kids b.kids
theorem l24a (a b : NodeM) (ha : okN a) (hb : okN b) (hl : a.items.length = b.items.length) {L : List Blk} {Q : AExit → Env → Heap → Prop} (hL : L[0]? = some (.box false (nodeC a))) (hL1 : L[1]? = some (.box false (nodeC b)))
   (hex : ∀ f' L', L'[0]? = some (.box false (nodeC a)) → L'[1]? = some (.box false (nodeC b)) → f' 2 = .ptr 0 0 0 → f' 3 = .ptr 1 0 0 → sameIs a.items b.items = true → Q (.exit 0) (mkE 85 f') (hx Heap.empty L'))
   (hret : ∀ f' L', sameIs a.items b.items = false → f' 4 = boolA false → Q .ret (mkE 85 f') (hx Heap.empty L')) :
   ∀ (d i : Nat) (f : Nat → AV), i + d = a.items.length → sameIs a.items b.items = sameIs (a.items.drop i) (b.items.drop i) → f 2 = .ptr 0 0 0 → f 3 = .ptr 1 0 0 → f 5 = int i →
    AW ft (.loop c24L0) (mkE 85 f) (hx Heap.empty L) Q := by
  intro d
  have hi := ha.i.n
  unfold MX at hi
  induction d with
  | zero =>
    intro i f hd hc h2 h3 h5
    have g : ((i : Int) < a.items.length) = False := by simp; omega
    rw [AW_loop]
    unfold c24L0
    rw [List.drop_eq_nil_of_le (by omega)] at hc
    simp only [↓vp, vq0, vq1, vq2, vq3, vr0, vr1, vr2, vr3, vr4, vr5, vr6, vr7, vr8, vr9, vr10, vr11, vr12, vr13, vr14, vr15, vr16, vr17, vr18, vr19, vr20, vr21, vr22, vr23, vr24, vr25, vr26, vr27, vr28, vr29, vr30, vr31, vr32, vr33, vr34, opS, fpS, okP, pack, nAl, allocA, shId, leaves, fillA, fillR, splice, Nat.reduceLT, Nat.reduceEqDiff, Nat.reduceLeDiff, Nat.reduceAdd, Nat.reduceSub, Nat.reduceMul, Int.reduceBEq, Int.reduceBNe, Int.reduceLT, Int.reduceLE, Int.reduceEq, reduceIte, reduceCtorEq, hL, nodeC, int, boolA, lenI, h2, h3, h5, g]
    refine hex _ _ hL hL1 ?_ ?_ (by rw [hc]; rfl) <;> simp only [↓vp, vq0, vq1, vq2, vq3, vr0, vr1, vr2, vr3, vr4, vr5, vr6, vr7, vr8, vr9, vr10, vr11, vr12, vr13, vr14, vr15, vr16, vr17, vr18, vr19, vr20, vr21, vr22, vr23, vr24, vr25, vr26, vr27, vr28, vr29, vr30, vr31, vr32, vr33, vr34, opS, fpS, okP, pack, nAl, allocA, shId, leaves, fillA, fillR, splice, Nat.reduceLT, Nat.reduceEqDiff, Nat.reduceLeDiff, Nat.reduceAdd, Nat.reduceSub, Nat.reduceMul, Int.reduceBEq, Int.reduceBNe, Int.reduceLT, Int.reduceLE, Int.reduceEq, reduceIte, reduceCtorEq, h2, h3]
  | succ d ih =>
    intro i f hd hc h2 h3 h5
    have g : ((i : Int) < a.items.length) = True := by simp; omega
    have gi : i < a.items.length := by omega
    have gj : i < b.items.length := by omega
    have o1 := ha.i.at_ gi
    have o2 := hb.i.at_ gj
    rw [AW_loop]
    unfold c24L0
    rw [List.drop_eq_getElem_cons gi, List.drop_eq_getElem_cons gj, sameIs] at hc
    have w1 := wrap_succ (show i < 9223372036854775807 by omega)
    cases e1 : sameI a.items[i] b.items[i] with
    | false =>
      simp only [↓vp, vq0, vq1, vq2, vq3, vr0, vr1, vr2, vr3, vr4, vr5, vr6, vr7, vr8, vr9, vr10, vr11, vr12, vr13, vr14, vr15, vr16, vr17, vr18, vr19, vr20, vr21, vr22, vr23, vr24, vr25, vr26, vr27, vr28, vr29, vr30, vr31, vr32, vr33, vr34, opS, fpS, okP, pack, nAl, allocA, shId, leaves, fillA, fillR, splice, Nat.reduceLT, Nat.reduceEqDiff, Nat.reduceLeDiff, Nat.reduceAdd, Nat.reduceSub, Nat.reduceMul, Int.reduceBEq, Int.reduceBNe, Int.reduceLT, Int.reduceLE, Int.reduceEq, reduceIte, reduceCtorEq, da, int, boolA, hL, hL1, h2, h3, h5, g, atI gi, cI gi, atI gj, cI gj, k88, o1, o2, e1]
      refine hret _ _ (by rw [hc, e1, Bool.false_and]) ?_
      simp only [↓vp, vq0, vq1, vq2, vq3, vr0, vr1, vr2, vr3, vr4, vr5, vr6, vr7, vr8, vr9, vr10, vr11, vr12, vr13, vr14, vr15, vr16, vr17, vr18, vr19, vr20, vr21, vr22, vr23, vr24, vr25, vr26, vr27, vr28, vr29, vr30, vr31, vr32, vr33, vr34, opS, fpS, okP, pack, nAl, allocA, shId, leaves, fillA, fillR, splice, Nat.reduceLT, Nat.reduceEqDiff, Nat.reduceLeDiff, Nat.reduceAdd, Nat.reduceSub, Nat.reduceMul, Int.reduceBEq, Int.reduceBNe, Int.reduceLT, Int.reduceLE, Int.reduceEq, reduceIte, reduceCtorEq, da, int, boolA]
    | true =>
      simp only [↓vp, vq0, vq1, vq2, vq3, vr0, vr1, vr2, vr3, vr4, vr5, vr6, vr7, vr8, vr9, vr10, vr11, vr12, vr13, vr14, vr15, vr16, vr17, vr18, vr19, vr20, vr21, vr22, vr23, vr24, vr25, vr26, vr27, vr28, vr29, vr30, vr31, vr32, vr33, vr34, opS, fpS, okP, pack, nAl, allocA, shId, leaves, fillA, fillR, splice, Nat.reduceLT, Nat.reduceEqDiff, Nat.reduceLeDiff, Nat.reduceAdd, Nat.reduceSub, Nat.reduceMul, Int.reduceBEq, Int.reduceBNe, Int.reduceLT, Int.reduceLE, Int.reduceEq, reduceIte, reduceCtorEq, da, int, boolA, hL, hL1, h2, h3, h5, g, atI gi, cI gi, atI gj, cI gj, k88, o1, o2, e1, w1]
      refine ih (i + 1) _ (by omega) (by rw [hc, e1, Bool.true_and]) ?_ ?_ ?_ <;> simp only [↓vp, vq0, vq1, vq2, vq3, vr0, vr1, vr2, vr3, vr4, vr5, vr6, vr7, vr8, vr9, vr10, vr11, vr12, vr13, vr14, vr15, vr16, vr17, vr18, vr19, vr20, vr21, vr22, vr23, vr24, vr25, vr26, vr27, vr28, vr29, vr30, vr31, vr32, vr33, vr34, opS, fpS, okP, pack, nAl, allocA, shId, leaves, fillA, fillR, splice, Nat.reduceLT, Nat.reduceEqDiff, Nat.reduceLeDiff, Nat.reduceAdd, Nat.reduceSub, Nat.reduceMul, Int.reduceBEq, Int.reduceBNe, Int.reduceLT, Int.reduceLE, Int.reduceEq, reduceIte, reduceCtorEq, da, int, boolA, h2, h3]
theorem l24b (a b : NodeM) (ha : okN a) (hb : okN b) (hl : a.kids.length = b.kids.length) {L : List Blk} {Q : AExit → Env → Heap → Prop} (hL : L[0]? = some (.box false (nodeC a))) (hL1 : L[1]? = some (.box false (nodeC b)))
   (hex : ∀ f', sameKs a.kids b.kids = true → Q (.exit 2) (mkE 85 f') (hx Heap.empty L))
   (hret : ∀ f', sameKs a.kids b.kids = false → f' 4 = boolA false → Q .ret (mkE 85 f') (hx Heap.empty L)) :
   ∀ (d i : Nat) (f : Nat → AV), i + d = a.kids.length → sameKs a.kids b.kids = sameKs (a.kids.drop i) (b.kids.drop i) → f 2 = .ptr 0 0 0 → f 3 = .ptr 1 0 0 → f 6 = int i →
    AW ft (.loop c24L1) (mkE 85 f) (hx Heap.empty L) Q := by
  intro d
  have hi := ha.k.n
  unfold MX at hi
  induction d with
  | zero =>
    intro i f hd hc h2 h3 h5
    have g : ((i : Int) < a.kids.length) = False := by simp; omega
    rw [AW_loop]
    unfold c24L1
    rw [List.drop_eq_nil_of_le (by omega)] at hc
    simp only [↓vp, vq0, vq1, vq2, vq3, vr0, vr1, vr2, vr3, vr4, vr5, vr6, vr7, vr8, vr9, vr10, vr11, vr12, vr13, vr14, vr15, vr16, vr17, vr18, vr19, vr20, vr21, vr22, vr23, vr24, vr25, vr26, vr27, vr28, vr29, vr30, vr31, vr32, vr33, vr34, opS, fpS, okP, pack, nAl, allocA, shId, leaves, fillA, fillR, splice, Nat.reduceLT, Nat.reduceEqDiff, Nat.reduceLeDiff, Nat.reduceAdd, Nat.reduceSub, Nat.reduceMul, Int.reduceBEq, Int.reduceBNe, Int.reduceLT, Int.reduceLE, Int.reduceEq, reduceIte, reduceCtorEq, da, int, boolA, hL, h2, h3, h5, g]
    exact hex _ (by rw [hc]; rfl)
  | succ d ih =>
    intro i f hd hc h2 h3 h5
    have g : ((i : Int) < a.kids.length) = True := by simp; omega
    have gi : i < a.kids.length := by omega
    have gj : i < b.kids.length := by omega
    have o1 := ha.k.at_ gi
    have o2 := hb.k.at_ gj
    rw [AW_loop]
    unfold c24L1
    rw [List.drop_eq_getElem_cons gi, List.drop_eq_getElem_cons gj, sameKs] at hc
    have w1 := wrap_succ (show i < 9223372036854775807 by omega)
    cases e1 : a.kids[i].ref == b.kids[i].ref with
    | false =>
      have e1' : (a.kids[i].ref != b.kids[i].ref) = true := by rw [bne, e1]; rfl
      simp only [↓vp, vq0, vq1, vq2, vq3, vr0, vr1, vr2, vr3, vr4, vr5, vr6, vr7, vr8, vr9, vr10, vr11, vr12, vr13, vr14, vr15, vr16, vr17, vr18, vr19, vr20, vr21, vr22, vr23, vr24, vr25, vr26, vr27, vr28, vr29, vr30, vr31, vr32, vr33, vr34, opS, fpS, okP, pack, nAl, allocA, shId, leaves, fillA, fillR, splice, Nat.reduceLT, Nat.reduceEqDiff, Nat.reduceLeDiff, Nat.reduceAdd, Nat.reduceSub, Nat.reduceMul, Int.reduceBEq, Int.reduceBNe, Int.reduceLT, Int.reduceLE, Int.reduceEq, reduceIte, reduceCtorEq, da, int, boolA, hL, hL1, h2, h3, h5, g, atK gi, cK gi, atK gj, cK gj, k89, o1, o2, e1']
      refine hret _ (by rw [hc, sameK, e1, Bool.false_and, Bool.false_and]) ?_
      simp only [↓vp, vq0, vq1, vq2, vq3, vr0, vr1, vr2, vr3, vr4, vr5, vr6, vr7, vr8, vr9, vr10, vr11, vr12, vr13, vr14, vr15, vr16, vr17, vr18, vr19, vr20, vr21, vr22, vr23, vr24, vr25, vr26, vr27, vr28, vr29, vr30, vr31, vr32, vr33, vr34, opS, fpS, okP, pack, nAl, allocA, shId, leaves, fillA, fillR, splice, Nat.reduceLT, Nat.reduceEqDiff, Nat.reduceLeDiff, Nat.reduceAdd, Nat.reduceSub, Nat.reduceMul, Int.reduceBEq, Int.reduceBNe, Int.reduceLT, Int.reduceLE, Int.reduceEq, reduceIte, reduceCtorEq, da, int, boolA]
    | true =>
      have e1' : (a.kids[i].ref != b.kids[i].ref) = false := by rw [bne, e1]; rfl
      cases e2 : cmpB a.kids[i].key b.kids[i].key == 0 with
      | false =>
        have e2' : (cmpB a.kids[i].key b.kids[i].key != 0) = true := by rw [bne, e2]; rfl
        simp only [↓vp, vq0, vq1, vq2, vq3, vr0, vr1, vr2, vr3, vr4, vr5, vr6, vr7, vr8, vr9, vr10, vr11, vr12, vr13, vr14, vr15, vr16, vr17, vr18, vr19, vr20, vr21, vr22, vr23, vr24, vr25, vr26, vr27, vr28, vr29, vr30, vr31, vr32, vr33, vr34, opS, fpS, okP, pack, nAl, allocA, shId, leaves, fillA, fillR, splice, Nat.reduceLT, Nat.reduceEqDiff, Nat.reduceLeDiff, Nat.reduceAdd, Nat.reduceSub, Nat.reduceMul, Int.reduceBEq, Int.reduceBNe, Int.reduceLT, Int.reduceLE, Int.reduceEq, reduceIte, reduceCtorEq, da, int, boolA, hL, hL1, h2, h3, h5, g, atK gi, cK gi, atK gj, cK gj, k89, o1, o2, e1', e2']
        refine hret _ (by rw [hc, sameK, e1, e2, Bool.true_and, Bool.false_and]) ?_
        simp only [↓vp, vq0, vq1, vq2, vq3, vr0, vr1, vr2, vr3, vr4, vr5, vr6, vr7, vr8, vr9, vr10, vr11, vr12, vr13, vr14, vr15, vr16, vr17, vr18, vr19, vr20, vr21, vr22, vr23, vr24, vr25, vr26, vr27, vr28, vr29, vr30, vr31, vr32, vr33, vr34, opS, fpS, okP, pack, nAl, allocA, shId, leaves, fillA, fillR, splice, Nat.reduceLT, Nat.reduceEqDiff, Nat.reduceLeDiff, Nat.reduceAdd, Nat.reduceSub, Nat.reduceMul, Int.reduceBEq, Int.reduceBNe, Int.reduceLT, Int.reduceLE, Int.reduceEq, reduceIte, reduceCtorEq, da, int, boolA]
      | true =>
        have e2' : (cmpB a.kids[i].key b.kids[i].key != 0) = false := by rw [bne, e2]; rfl
        simp only [↓vp, vq0, vq1, vq2, vq3, vr0, vr1, vr2, vr3, vr4, vr5, vr6, vr7, vr8, vr9, vr10, vr11, vr12, vr13, vr14, vr15, vr16, vr17, vr18, vr19, vr20, vr21, vr22, vr23, vr24, vr25, vr26, vr27, vr28, vr29, vr30, vr31, vr32, vr33, vr34, opS, fpS, okP, pack, nAl, allocA, shId, leaves, fillA, fillR, splice, Nat.reduceLT, Nat.reduceEqDiff, Nat.reduceLeDiff, Nat.reduceAdd, Nat.reduceSub, Nat.reduceMul, Int.reduceBEq, Int.reduceBNe, Int.reduceLT, Int.reduceLE, Int.reduceEq, reduceIte, reduceCtorEq, da, int, boolA, hL, hL1, h2, h3, h5, g, atK gi, cK gi, atK gj, cK gj, k89, o1, o2, e1', e2', w1]
        refine ih (i + 1) _ (by omega) (by rw [hc, sameK, e1, e2, Bool.true_and, Bool.true_and]) ?_ ?_ ?_ <;> simp only [↓vp, vq0, vq1, vq2, vq3, vr0, vr1, vr2, vr3, vr4, vr5, vr6, vr7, vr8, vr9, vr10, vr11, vr12, vr13, vr14, vr15, vr16, vr17, vr18, vr19, vr20, vr21, vr22, vr23, vr24, vr25, vr26, vr27, vr28, vr29, vr30, vr31, vr32, vr33, vr34, opS, fpS, okP, pack, nAl, allocA, shId, leaves, fillA, fillR, splice, Nat.reduceLT, Nat.reduceEqDiff, Nat.reduceLeDiff, Nat.reduceAdd, Nat.reduceSub, Nat.reduceMul, Int.reduceBEq, Int.reduceBNe, Int.reduceLT, Int.reduceLE, Int.reduceEq, reduceIte, reduceCtorEq, da, int, boolA, h2, h3]
theorem s24 (a b : NodeM) (ha : okN a) (hb : okN b) (H : Heap) : callL ft (.fn (.func 24) [] []) [.agg (nodeC a), .agg (nodeC b)] H = some (boolA (sameN a b), H) := by
  refine call_p (as' := [.agg (nodeC a), .agg (nodeC b)]) rfl rfl (by simp) ?_
  unfold c24 r24
  have no : ∀ {f : Nat → AV} {H : Heap}, f 4 = boolA false → sameN a b = false → RetP [.tmp 4] (boolA (sameN a b)) .ret (mkE 85 f) H := fun h1 h2 => ret1 rfl (by decide) ⟨_, by rw [h1, h2]; rfl⟩
  cases e1 : a.leaf == b.leaf with
  | false =>
    simp only [↓vp, vq0, vq1, vq2, vq3, vr0, vr1, vr2, vr3, vr4, vr5, vr6, vr7, vr8, vr9, vr10, vr11, vr12, vr13, vr14, vr15, vr16, vr17, vr18, vr19, vr20, vr21, vr22, vr23, vr24, vr25, vr26, vr27, vr28, vr29, vr30, vr31, vr32, vr33, vr34, opS, fpS, okP, pack, nAl, allocA, shId, leaves, fillA, fillR, splice, Nat.reduceLT, Nat.reduceEqDiff, Nat.reduceLeDiff, Nat.reduceAdd, Nat.reduceSub, Nat.reduceMul, Int.reduceBEq, Int.reduceBNe, Int.reduceLT, Int.reduceLE, Int.reduceEq, reduceIte, reduceCtorEq, da, int, boolA, e1]
    exact no (by simp only [↓vp, vq0, vq1, vq2, vq3, vr0, vr1, vr2, vr3, vr4, vr5, vr6, vr7, vr8, vr9, vr10, vr11, vr12, vr13, vr14, vr15, vr16, vr17, vr18, vr19, vr20, vr21, vr22, vr23, vr24, vr25, vr26, vr27, vr28, vr29, vr30, vr31, vr32, vr33, vr34, opS, fpS, okP, pack, nAl, allocA, shId, leaves, fillA, fillR, splice, Nat.reduceLT, Nat.reduceEqDiff, Nat.reduceLeDiff, Nat.reduceAdd, Nat.reduceSub, Nat.reduceMul, Int.reduceBEq, Int.reduceBNe, Int.reduceLT, Int.reduceLE, Int.reduceEq, reduceIte, reduceCtorEq, da, int, boolA]) (by simp [sameN, e1])
  | true =>
    cases e2 : a.items.length == b.items.length with
    | false =>
      have e2' : ((a.items.length : Int) != b.items.length) = true := by
        have : a.items.length ≠ b.items.length := by simpa using e2
        simp; omega
      simp only [↓vp, vq0, vq1, vq2, vq3, vr0, vr1, vr2, vr3, vr4, vr5, vr6, vr7, vr8, vr9, vr10, vr11, vr12, vr13, vr14, vr15, vr16, vr17, vr18, vr19, vr20, vr21, vr22, vr23, vr24, vr25, vr26, vr27, vr28, vr29, vr30, vr31, vr32, vr33, vr34, opS, fpS, okP, pack, nAl, allocA, shId, leaves, fillA, fillR, splice, Nat.reduceLT, Nat.reduceEqDiff, Nat.reduceLeDiff, Nat.reduceAdd, Nat.reduceSub, Nat.reduceMul, Int.reduceBEq, Int.reduceBNe, Int.reduceLT, Int.reduceLE, Int.reduceEq, reduceIte, reduceCtorEq, da, int, boolA, e1, e2']
      exact no (by simp only [↓vp, vq0, vq1, vq2, vq3, vr0, vr1, vr2, vr3, vr4, vr5, vr6, vr7, vr8, vr9, vr10, vr11, vr12, vr13, vr14, vr15, vr16, vr17, vr18, vr19, vr20, vr21, vr22, vr23, vr24, vr25, vr26, vr27, vr28, vr29, vr30, vr31, vr32, vr33, vr34, opS, fpS, okP, pack, nAl, allocA, shId, leaves, fillA, fillR, splice, Nat.reduceLT, Nat.reduceEqDiff, Nat.reduceLeDiff, Nat.reduceAdd, Nat.reduceSub, Nat.reduceMul, Int.reduceBEq, Int.reduceBNe, Int.reduceLT, Int.reduceLE, Int.reduceEq, reduceIte, reduceCtorEq, da, int, boolA]) (by simp [sameN, e1, e2])
    | true =>
      have h2 : a.items.length = b.items.length := by simpa using e2
      have e2' : ((a.items.length : Int) != b.items.length) = false := by simp; omega
      cases e3 : a.kids.length == b.kids.length with
      | false =>
        have e3' : ((a.kids.length : Int) != b.kids.length) = true := by
          have : a.kids.length ≠ b.kids.length := by simpa using e3
          simp; omega
        simp only [↓vp, vq0, vq1, vq2, vq3, vr0, vr1, vr2, vr3, vr4, vr5, vr6, vr7, vr8, vr9, vr10, vr11, vr12, vr13, vr14, vr15, vr16, vr17, vr18, vr19, vr20, vr21, vr22, vr23, vr24, vr25, vr26, vr27, vr28, vr29, vr30, vr31, vr32, vr33, vr34, opS, fpS, okP, pack, nAl, allocA, shId, leaves, fillA, fillR, splice, Nat.reduceLT, Nat.reduceEqDiff, Nat.reduceLeDiff, Nat.reduceAdd, Nat.reduceSub, Nat.reduceMul, Int.reduceBEq, Int.reduceBNe, Int.reduceLT, Int.reduceLE, Int.reduceEq, reduceIte, reduceCtorEq, da, int, boolA, e1, e2', e3']
        exact no (by simp only [↓vp, vq0, vq1, vq2, vq3, vr0, vr1, vr2, vr3, vr4, vr5, vr6, vr7, vr8, vr9, vr10, vr11, vr12, vr13, vr14, vr15, vr16, vr17, vr18, vr19, vr20, vr21, vr22, vr23, vr24, vr25, vr26, vr27, vr28, vr29, vr30, vr31, vr32, vr33, vr34, opS, fpS, okP, pack, nAl, allocA, shId, leaves, fillA, fillR, splice, Nat.reduceLT, Nat.reduceEqDiff, Nat.reduceLeDiff, Nat.reduceAdd, Nat.reduceSub, Nat.reduceMul, Int.reduceBEq, Int.reduceBNe, Int.reduceLT, Int.reduceLE, Int.reduceEq, reduceIte, reduceCtorEq, da, int, boolA]) (by simp [sameN, e1, e2, e3])
      | true =>
        have h3 : a.kids.length = b.kids.length := by simpa using e3
        have e3' : ((a.kids.length : Int) != b.kids.length) = false := by simp; omega
        simp only [↓vp, vq0, vq1, vq2, vq3, vr0, vr1, vr2, vr3, vr4, vr5, vr6, vr7, vr8, vr9, vr10, vr11, vr12, vr13, vr14, vr15, vr16, vr17, vr18, vr19, vr20, vr21, vr22, vr23, vr24, vr25, vr26, vr27, vr28, vr29, vr30, vr31, vr32, vr33, vr34, opS, fpS, okP, pack, nAl, allocA, shId, leaves, fillA, fillR, splice, Nat.reduceLT, Nat.reduceEqDiff, Nat.reduceLeDiff, Nat.reduceAdd, Nat.reduceSub, Nat.reduceMul, Int.reduceBEq, Int.reduceBNe, Int.reduceLT, Int.reduceLE, Int.reduceEq, reduceIte, reduceCtorEq, da, int, boolA, e1, e2', e3']
        refine l24a a b ha hb h2 rfl rfl (fun f' L' g0 g1 p2 p3 hs => ?_) (fun f' L' hs h4 => ?_) a.items.length 0 _ (by omega) rfl ?_ ?_ ?_
        · unfold c24R3
          simp only [↓vp, vq0, vq1, vq2, vq3, vr0, vr1, vr2, vr3, vr4, vr5, vr6, vr7, vr8, vr9, vr10, vr11, vr12, vr13, vr14, vr15, vr16, vr17, vr18, vr19, vr20, vr21, vr22, vr23, vr24, vr25, vr26, vr27, vr28, vr29, vr30, vr31, vr32, vr33, vr34, opS, fpS, okP, pack, nAl, allocA, shId, leaves, fillA, fillR, splice, Nat.reduceLT, Nat.reduceEqDiff, Nat.reduceLeDiff, Nat.reduceAdd, Nat.reduceSub, Nat.reduceMul, Int.reduceBEq, Int.reduceBNe, Int.reduceLT, Int.reduceLE, Int.reduceEq, reduceIte, reduceCtorEq, da, int, boolA]
          refine l24b a b ha hb h3 g0 g1 (fun f'' hk => ?_) (fun f'' hk h4 => ?_) a.kids.length 0 _ (by omega) rfl ?_ ?_ ?_
          · unfold c24R2
            simp only [↓vp, vq0, vq1, vq2, vq3, vr0, vr1, vr2, vr3, vr4, vr5, vr6, vr7, vr8, vr9, vr10, vr11, vr12, vr13, vr14, vr15, vr16, vr17, vr18, vr19, vr20, vr21, vr22, vr23, vr24, vr25, vr26, vr27, vr28, vr29, vr30, vr31, vr32, vr33, vr34, opS, fpS, okP, pack, nAl, allocA, shId, leaves, fillA, fillR, splice, Nat.reduceLT, Nat.reduceEqDiff, Nat.reduceLeDiff, Nat.reduceAdd, Nat.reduceSub, Nat.reduceMul, Int.reduceBEq, Int.reduceBNe, Int.reduceLT, Int.reduceLE, Int.reduceEq, reduceIte, reduceCtorEq, da, int, boolA]
            refine ret1 rfl (by decide) ?_
            simp only [↓vp, vq0, vq1, vq2, vq3, vr0, vr1, vr2, vr3, vr4, vr5, vr6, vr7, vr8, vr9, vr10, vr11, vr12, vr13, vr14, vr15, vr16, vr17, vr18, vr19, vr20, vr21, vr22, vr23, vr24, vr25, vr26, vr27, vr28, vr29, vr30, vr31, vr32, vr33, vr34, opS, fpS, okP, pack, nAl, allocA, shId, leaves, fillA, fillR, splice, Nat.reduceLT, Nat.reduceEqDiff, Nat.reduceLeDiff, Nat.reduceAdd, Nat.reduceSub, Nat.reduceMul, Int.reduceBEq, Int.reduceBNe, Int.reduceLT, Int.reduceLE, Int.reduceEq, reduceIte, reduceCtorEq, da, int, boolA, sameN, e1, e2, e3, hs, hk]
            exact ⟨_, rfl⟩
          · exact no h4 (by simp [sameN, e1, e2, e3, hs, hk])
          all_goals first | rfl | (simp only [↓vp, vq0, vq1, vq2, vq3, vr0, vr1, vr2, vr3, vr4, vr5, vr6, vr7, vr8, vr9, vr10, vr11, vr12, vr13, vr14, vr15, vr16, vr17, vr18, vr19, vr20, vr21, vr22, vr23, vr24, vr25, vr26, vr27, vr28, vr29, vr30, vr31, vr32, vr33, vr34, opS, fpS, okP, pack, nAl, allocA, shId, leaves, fillA, fillR, splice, Nat.reduceLT, Nat.reduceEqDiff, Nat.reduceLeDiff, Nat.reduceAdd, Nat.reduceSub, Nat.reduceMul, Int.reduceBEq, Int.reduceBNe, Int.reduceLT, Int.reduceLE, Int.reduceEq, reduceIte, reduceCtorEq, da, int, boolA, p2, p3]; done)
        · exact no h4 (by simp [sameN, e1, e2, e3, hs])
        all_goals first | rfl | (simp only [↓vp, vq0, vq1, vq2, vq3, vr0, vr1, vr2, vr3, vr4, vr5, vr6, vr7, vr8, vr9, vr10, vr11, vr12, vr13, vr14, vr15, vr16, vr17, vr18, vr19, vr20, vr21, vr22, vr23, vr24, vr25, vr26, vr27, vr28, vr29, vr30, vr31, vr32, vr33, vr34, opS, fpS, okP, pack, nAl, allocA, shId, leaves, fillA, fillR, splice, Nat.reduceLT, Nat.reduceEqDiff, Nat.reduceLeDiff, Nat.reduceAdd, Nat.reduceSub, Nat.reduceMul, Int.reduceBEq, Int.reduceBNe, Int.reduceLT, Int.reduceLE, Int.reduceEq, reduceIte, reduceCtorEq, da, int, boolA]; done)
end Go.VI

set_option linter.unusedVariables false
set_option linter.unusedSimpArgs false
set_option maxRecDepth 100000
namespace Go.VI
attribute [local congr] AW_congr OW_congr DW_congr NW_congr VW_congr GW_congr PW_congr KW_congr ite_congr' GV_congr CV_congr
theorem l20a (n : NodeM) (hs : n.items.length ≤ 1000) {B0 B1 : Blk} (hn0 : ∀ s r, B0 ≠ .row false s r) (hn1 : ∀ s r, B1 ≠ .row false s r) {Q : AExit → Env → Heap → Prop}
   (hex : ∀ f' K S, Rep K 4 S (n.items.map itemC) → K.get 0 = some B0 → K.get 1 = some B1 → K.get 2 = some (.box false [boolA n.leaf, S, .sc (.slice none 0 0)]) → f' 1 = .ptr 0 0 0 → f' 2 = .ptr 1 0 0 → f' 3 = .ptr 2 0 0 → Q (.exit 0) (mkE 40 f') (hx K [])) :
   ∀ (d i : Nat) (S : AV) (K : Heap) (f : Nat → AV), i + d = n.items.length → Rep K 4 S ((n.items.take i).map itemC) → K.get 0 = some B0 → K.get 1 = some B1 → K.get 2 = some (.box false [boolA n.leaf, S, .sc (.slice none 0 0)]) →
    f 1 = .ptr 0 0 0 → f 2 = .ptr 1 0 0 → f 3 = .ptr 2 0 0 → f 12 = encI n.items → f 13 = int n.items.length → f 14 = int i →
    AW ft (.loop c20L0) (mkE 40 f) (hx K []) Q := by
  intro d
  induction d with
  | zero =>
    intro i S K f hd hr k0 k1 k2 h1 h2 h3 h12 h13 h14
    have g : ((i : Int) < n.items.length) = False := by simp; omega
    rw [AW_loop]
    unfold c20L0
    rw [List.take_of_length_le (by omega)] at hr
    simp only [↓vp, vq0, vq1, vq2, vq3, vr0, vr1, vr2, vr3, vr4, vr5, vr6, vr7, vr8, vr9, vr10, vr11, vr12, vr13, vr14, vr15, vr16, vr17, vr18, vr19, vr20, vr21, vr22, vr23, vr24, vr25, vr26, vr27, vr28, vr29, vr30, vr31, vr32, vr33, vr34, opS, fpS, okP, pack, nAl, allocA, shId, leaves, fillA, fillR, splice, Nat.reduceLT, Nat.reduceEqDiff, Nat.reduceLeDiff, Nat.reduceAdd, Nat.reduceSub, Nat.reduceMul, Int.reduceBEq, Int.reduceBNe, Int.reduceLT, Int.reduceLE, Int.reduceEq, reduceIte, reduceCtorEq, da, int, boolA, h13, h14, g]
    refine hex _ K S hr k0 k1 k2 ?_ ?_ ?_ <;> simp only [↓vp, vq0, vq1, vq2, vq3, vr0, vr1, vr2, vr3, vr4, vr5, vr6, vr7, vr8, vr9, vr10, vr11, vr12, vr13, vr14, vr15, vr16, vr17, vr18, vr19, vr20, vr21, vr22, vr23, vr24, vr25, vr26, vr27, vr28, vr29, vr30, vr31, vr32, vr33, vr34, opS, fpS, okP, pack, nAl, allocA, shId, leaves, fillA, fillR, splice, Nat.reduceLT, Nat.reduceEqDiff, Nat.reduceLeDiff, Nat.reduceAdd, Nat.reduceSub, Nat.reduceMul, Int.reduceBEq, Int.reduceBNe, Int.reduceLT, Int.reduceLE, Int.reduceEq, reduceIte, reduceCtorEq, da, int, boolA, h1, h2, h3]
  | succ d ih =>
    intro i S K f hd hr k0 k1 k2 h1 h2 h3 h12 h13 h14
    have g : ((i : Int) < n.items.length) = True := by simp; omega
    have gi : i < n.items.length := by omega
    have w1 := wrap_succ (show i < 9223372036854775807 by omega)
    have l0 := Heap.get_lt k0
    have l1 := Heap.get_lt k1
    have l2 := Heap.get_lt k2
    have o0 := fun L => hx_get_old K L 0 l0
    have o1 := fun L => hx_get_old K L 1 l1
    have o2 := fun L => hx_get_old K L 2 l2
    have p2 := fun L b => hx_set_old K L b 2 l2
    have ht : (n.items.take (i + 1)).map itemC = (n.items.take i).map itemC ++ [itemC n.items[i]] := by
      rw [List.take_succ_eq_append_getElem gi, List.map_append]; rfl
    rw [AW_loop]
    unfold c20L0
    rcases hr with ⟨rfl, hr⟩ | ⟨id, rfl, hr⟩
    · simp only [↓vp, vq0, vq1, vq2, vq3, vr0, vr1, vr2, vr3, vr4, vr5, vr6, vr7, vr8, vr9, vr10, vr11, vr12, vr13, vr14, vr15, vr16, vr17, vr18, vr19, vr20, vr21, vr22, vr23, vr24, vr25, vr26, vr27, vr28, vr29, vr30, vr31, vr32, vr33, vr34, opS, fpS, okP, pack, nAl, allocA, shId, leaves, fillA, fillR, splice, Nat.reduceLT, Nat.reduceEqDiff, Nat.reduceLeDiff, Nat.reduceAdd, Nat.reduceSub, Nat.reduceMul, Int.reduceBEq, Int.reduceBNe, Int.reduceLT, Int.reduceLE, Int.reduceEq, reduceIte, reduceCtorEq, da, int, boolA, h1, h2, h3, h12, h13, h14, g, atI gi, cI gi, k2, o2, p2, w1]
      rw [← hx_nil (hx _ _)]
      have q0 : ∀ (j : Nat) (b : Blk) (L : List Blk), j ≠ 2 → j < K.next → (hx (K.set 2 b) L).get j = K.get j := fun j b L hj hl => by
        rw [hx_get_old _ _ _ (by simpa using hl), Heap.get_set_ne _ hj]
      have q2 : ∀ (b : Blk) (L : List Blk), (hx (K.set 2 b) L).get 2 = some b := fun b L => by
        rw [hx_get_old _ _ _ (by simpa using l2), Heap.get_set_self _ l2]
      refine ih (i + 1) (.sl (K.next + 2) 0 1) _ _ (by omega) (.inr ⟨K.next + 2, ?_, ?_⟩) ?_ ?_ ?_ ?_ ?_ ?_ ?_ ?_ ?_
      · rw [ht, hr]; rfl
      · rw [ht, hr]
        simp only [↓vp, vq0, vq1, vq2, vq3, vr0, vr1, vr2, vr3, vr4, vr5, vr6, vr7, vr8, vr9, vr10, vr11, vr12, vr13, vr14, vr15, vr16, vr17, vr18, vr19, vr20, vr21, vr22, vr23, vr24, vr25, vr26, vr27, vr28, vr29, vr30, vr31, vr32, vr33, vr34, opS, fpS, okP, pack, nAl, allocA, shId, leaves, fillA, fillR, splice, Nat.reduceLT, Nat.reduceEqDiff, Nat.reduceLeDiff, Nat.reduceAdd, Nat.reduceSub, Nat.reduceMul, Int.reduceBEq, Int.reduceBNe, Int.reduceLT, Int.reduceLE, Int.reduceEq, reduceIte, reduceCtorEq]
      · rw [q0 _ _ _ (by decide) l0]; exact k0
      · rw [q0 _ _ _ (by decide) l1]; exact k1
      · rw [q2]; rfl
      all_goals simp only [↓vp, vq0, vq1, vq2, vq3, vr0, vr1, vr2, vr3, vr4, vr5, vr6, vr7, vr8, vr9, vr10, vr11, vr12, vr13, vr14, vr15, vr16, vr17, vr18, vr19, vr20, vr21, vr22, vr23, vr24, vr25, vr26, vr27, vr28, vr29, vr30, vr31, vr32, vr33, vr34, opS, fpS, okP, pack, nAl, allocA, shId, leaves, fillA, fillR, splice, Nat.reduceLT, Nat.reduceEqDiff, Nat.reduceLeDiff, Nat.reduceAdd, Nat.reduceSub, Nat.reduceMul, Int.reduceBEq, Int.reduceBNe, Int.reduceLT, Int.reduceLE, Int.reduceEq, reduceIte, reduceCtorEq, da, int, boolA, h1, h2, h3, h12, h13]
    · have lid := Heap.get_lt hr
      have d0 : 0 ≠ id := fun e => by subst e; rw [k0] at hr; exact hn0 _ _ (Option.some.inj hr)
      have d1 : 1 ≠ id := fun e => by subst e; rw [k1] at hr; exact hn1 _ _ (Option.some.inj hr)
      have d2 : 2 ≠ id := fun e => by subst e; rw [k2] at hr; cases hr
      have oid := fun L => hx_get_old K L id lid
      have pid := fun L b => hx_set_old K L b id lid
      have o2' : ∀ (L : List Blk) (b : Blk), (hx (K.set id b) L).get 2 = K.get 2 := fun L b => by
        rw [hx_get_old _ _ _ (by simpa using l2), Heap.get_set_ne _ d2]
      have p2' : ∀ (L : List Blk) (b c : Blk), (hx (K.set id b) L).set 2 c = hx ((K.set id b).set 2 c) L := fun L b c => hx_set_old _ L c 2 (by simpa using l2)
      have hlen : ((n.items.take i).map itemC).length = i := by simp; omega
      have hb : (i + 1) * 64 ≤ 140737488355328 := by omega
      have hr' := hr
      have nle : (i + 1 ≤ i) = False := eq_false (by omega)
      simp only [↓vp, vq0, vq1, vq2, vq3, vr0, vr1, vr2, vr3, vr4, vr5, vr6, vr7, vr8, vr9, vr10, vr11, vr12, vr13, vr14, vr15, vr16, vr17, vr18, vr19, vr20, vr21, vr22, vr23, vr24, vr25, vr26, vr27, vr28, vr29, vr30, vr31, vr32, vr33, vr34, opS, fpS, okP, pack, nAl, allocA, shId, leaves, fillA, fillR, splice, Nat.reduceLT, Nat.reduceEqDiff, Nat.reduceLeDiff, Nat.reduceAdd, Nat.reduceSub, Nat.reduceMul, Int.reduceBEq, Int.reduceBNe, Int.reduceLT, Int.reduceLE, Int.reduceEq, reduceIte, reduceCtorEq, da, int, boolA, h1, h2, h3, h12, h13, h14, g, atI gi, cI gi, k2, o2, p2, w1, oid, pid, o2', p2', hr, hlen, hb, List.take_of_length_le (Nat.le_of_eq hlen), List.length_take, nle]
      rw [← hx_nil (hx _ _)]
      have q0 : ∀ (j : Nat) (b c : Blk) (L : List Blk), j ≠ 2 → j ≠ id → j < K.next → (hx ((K.set id c).set 2 b) L).get j = K.get j := fun j b c L hj hj2 hl => by
        rw [hx_get_old _ _ _ (by simpa using hl), Heap.get_set_ne _ hj, Heap.get_set_ne _ hj2]
      have q2 : ∀ (b c : Blk) (L : List Blk), (hx ((K.set id c).set 2 b) L).get 2 = some b := fun b c L => by
        rw [hx_get_old _ _ _ (by simpa using l2), Heap.get_set_self _ (by simpa using l2)]
      refine ih (i + 1) (.sl (K.next + 2) 0 (i + 1)) _ _ (by omega) (.inr ⟨K.next + 2, ?_, ?_⟩) ?_ ?_ ?_ ?_ ?_ ?_ ?_ ?_ ?_
      · rw [ht, List.length_append, hlen]; rfl
      · rw [ht]
        simp only [↓vp, vq0, vq1, vq2, vq3, vr0, vr1, vr2, vr3, vr4, vr5, vr6, vr7, vr8, vr9, vr10, vr11, vr12, vr13, vr14, vr15, vr16, vr17, vr18, vr19, vr20, vr21, vr22, vr23, vr24, vr25, vr26, vr27, vr28, vr29, vr30, vr31, vr32, vr33, vr34, opS, fpS, okP, pack, nAl, allocA, shId, leaves, fillA, fillR, splice, Nat.reduceLT, Nat.reduceEqDiff, Nat.reduceLeDiff, Nat.reduceAdd, Nat.reduceSub, Nat.reduceMul, Int.reduceBEq, Int.reduceBNe, Int.reduceLT, Int.reduceLE, Int.reduceEq, reduceIte, reduceCtorEq]
      · rw [q0 _ _ _ _ (by decide) d0 l0]; exact k0
      · rw [q0 _ _ _ _ (by decide) d1 l1]; exact k1
      · rw [q2]; rfl
      all_goals simp only [↓vp, vq0, vq1, vq2, vq3, vr0, vr1, vr2, vr3, vr4, vr5, vr6, vr7, vr8, vr9, vr10, vr11, vr12, vr13, vr14, vr15, vr16, vr17, vr18, vr19, vr20, vr21, vr22, vr23, vr24, vr25, vr26, vr27, vr28, vr29, vr30, vr31, vr32, vr33, vr34, opS, fpS, okP, pack, nAl, allocA, shId, leaves, fillA, fillR, splice, Nat.reduceLT, Nat.reduceEqDiff, Nat.reduceLeDiff, Nat.reduceAdd, Nat.reduceSub, Nat.reduceMul, Int.reduceBEq, Int.reduceBNe, Int.reduceLT, Int.reduceLE, Int.reduceEq, reduceIte, reduceCtorEq, da, int, boolA, h1, h2, h3, h12, h13]
theorem l20b (n : NodeM) (hs : n.kids.length ≤ 1000) {B0 B1 : Blk} (hn0 : ∀ s r, B0 ≠ .row false s r) (hn1 : ∀ s r, B1 ≠ .row false s r) {S : AV} {rows : List (List AV)} {Q : AExit → Env → Heap → Prop}
   (hex : ∀ f' K T, Rep K 2 T (n.kids.map kidC) → Rep K 4 S rows → K.get 0 = some B0 → K.get 1 = some B1 → K.get 2 = some (.box false [boolA n.leaf, S, T]) → f' 1 = .ptr 0 0 0 → f' 2 = .ptr 1 0 0 → f' 3 = .ptr 2 0 0 → Q (.exit 2) (mkE 40 f') (hx K [])) :
   ∀ (d i : Nat) (T : AV) (K : Heap) (f : Nat → AV), i + d = n.kids.length → Rep K 2 T ((n.kids.take i).map kidC) → Rep K 4 S rows → K.get 0 = some B0 → K.get 1 = some B1 → K.get 2 = some (.box false [boolA n.leaf, S, T]) →
    f 1 = .ptr 0 0 0 → f 2 = .ptr 1 0 0 → f 3 = .ptr 2 0 0 → f 26 = encK n.kids → f 27 = int n.kids.length → f 28 = int i →
    AW ft (.loop c20L1) (mkE 40 f) (hx K []) Q := by
  intro d
  induction d with
  | zero =>
    intro i T K f hd hr hrS k0 k1 k2 h1 h2 h3 h26 h27 h28
    have g : ((i : Int) < n.kids.length) = False := by simp; omega
    rw [AW_loop]
    unfold c20L1
    rw [List.take_of_length_le (by omega)] at hr
    simp only [↓vp, vq0, vq1, vq2, vq3, vr0, vr1, vr2, vr3, vr4, vr5, vr6, vr7, vr8, vr9, vr10, vr11, vr12, vr13, vr14, vr15, vr16, vr17, vr18, vr19, vr20, vr21, vr22, vr23, vr24, vr25, vr26, vr27, vr28, vr29, vr30, vr31, vr32, vr33, vr34, opS, fpS, okP, pack, nAl, allocA, shId, leaves, fillA, fillR, splice, Nat.reduceLT, Nat.reduceEqDiff, Nat.reduceLeDiff, Nat.reduceAdd, Nat.reduceSub, Nat.reduceMul, Int.reduceBEq, Int.reduceBNe, Int.reduceLT, Int.reduceLE, Int.reduceEq, reduceIte, reduceCtorEq, da, int, boolA, h27, h28, g]
    refine hex _ K T hr hrS k0 k1 k2 ?_ ?_ ?_ <;> simp only [↓vp, vq0, vq1, vq2, vq3, vr0, vr1, vr2, vr3, vr4, vr5, vr6, vr7, vr8, vr9, vr10, vr11, vr12, vr13, vr14, vr15, vr16, vr17, vr18, vr19, vr20, vr21, vr22, vr23, vr24, vr25, vr26, vr27, vr28, vr29, vr30, vr31, vr32, vr33, vr34, opS, fpS, okP, pack, nAl, allocA, shId, leaves, fillA, fillR, splice, Nat.reduceLT, Nat.reduceEqDiff, Nat.reduceLeDiff, Nat.reduceAdd, Nat.reduceSub, Nat.reduceMul, Int.reduceBEq, Int.reduceBNe, Int.reduceLT, Int.reduceLE, Int.reduceEq, reduceIte, reduceCtorEq, da, int, boolA, h1, h2, h3]
  | succ d ih =>
    intro i T K f hd hr hrS k0 k1 k2 h1 h2 h3 h26 h27 h28
    have g : ((i : Int) < n.kids.length) = True := by simp; omega
    have gi : i < n.kids.length := by omega
    have w1 := wrap_succ (show i < 9223372036854775807 by omega)
    have l0 := Heap.get_lt k0
    have l1 := Heap.get_lt k1
    have l2 := Heap.get_lt k2
    have o0 := fun L => hx_get_old K L 0 l0
    have o1 := fun L => hx_get_old K L 1 l1
    have o2 := fun L => hx_get_old K L 2 l2
    have p2 := fun L b => hx_set_old K L b 2 l2
    have ht : (n.kids.take (i + 1)).map kidC = (n.kids.take i).map kidC ++ [kidC n.kids[i]] := by
      rw [List.take_succ_eq_append_getElem gi, List.map_append]; rfl
    rw [AW_loop]
    unfold c20L1
    rcases hr with ⟨rfl, hr⟩ | ⟨id, rfl, hr⟩
    · simp only [↓vp, vq0, vq1, vq2, vq3, vr0, vr1, vr2, vr3, vr4, vr5, vr6, vr7, vr8, vr9, vr10, vr11, vr12, vr13, vr14, vr15, vr16, vr17, vr18, vr19, vr20, vr21, vr22, vr23, vr24, vr25, vr26, vr27, vr28, vr29, vr30, vr31, vr32, vr33, vr34, opS, fpS, okP, pack, nAl, allocA, shId, leaves, fillA, fillR, splice, Nat.reduceLT, Nat.reduceEqDiff, Nat.reduceLeDiff, Nat.reduceAdd, Nat.reduceSub, Nat.reduceMul, Int.reduceBEq, Int.reduceBNe, Int.reduceLT, Int.reduceLE, Int.reduceEq, reduceIte, reduceCtorEq, da, int, boolA, h1, h2, h3, h26, h27, h28, g, atK gi, cK gi, k2, o2, p2, w1]
      rw [← hx_nil (hx _ _)]
      have q0 : ∀ (j : Nat) (b : Blk) (L : List Blk), j ≠ 2 → j < K.next → (hx (K.set 2 b) L).get j = K.get j := fun j b L hj hl => by
        rw [hx_get_old _ _ _ (by simpa using hl), Heap.get_set_ne _ hj]
      have q2 : ∀ (b : Blk) (L : List Blk), (hx (K.set 2 b) L).get 2 = some b := fun b L => by
        rw [hx_get_old _ _ _ (by simpa using l2), Heap.get_set_self _ l2]
      have hS : Rep (hx (K.set 2 (.box false [boolA n.leaf, S, .sl (K.next + 2) 0 1])) [.box false (kidC n.kids[i]), .row false 2 [kidC n.kids[i]], .row false 2 [kidC n.kids[i]]]) 4 S rows := hrS.mono fun j hj => by
        rw [q0 _ _ _ (fun e => by subst e; rw [k2] at hj; cases hj) (Heap.get_lt hj)]
        exact hj
      refine ih (i + 1) (.sl (K.next + 2) 0 1) _ _ (by omega) (.inr ⟨K.next + 2, ?_, ?_⟩) hS ?_ ?_ ?_ ?_ ?_ ?_ ?_ ?_ ?_
      · rw [ht, hr]; rfl
      · rw [ht, hr]
        simp only [↓vp, vq0, vq1, vq2, vq3, vr0, vr1, vr2, vr3, vr4, vr5, vr6, vr7, vr8, vr9, vr10, vr11, vr12, vr13, vr14, vr15, vr16, vr17, vr18, vr19, vr20, vr21, vr22, vr23, vr24, vr25, vr26, vr27, vr28, vr29, vr30, vr31, vr32, vr33, vr34, opS, fpS, okP, pack, nAl, allocA, shId, leaves, fillA, fillR, splice, Nat.reduceLT, Nat.reduceEqDiff, Nat.reduceLeDiff, Nat.reduceAdd, Nat.reduceSub, Nat.reduceMul, Int.reduceBEq, Int.reduceBNe, Int.reduceLT, Int.reduceLE, Int.reduceEq, reduceIte, reduceCtorEq]
      · rw [q0 _ _ _ (by decide) l0]; exact k0
      · rw [q0 _ _ _ (by decide) l1]; exact k1
      · rw [q2]; rfl
      all_goals simp only [↓vp, vq0, vq1, vq2, vq3, vr0, vr1, vr2, vr3, vr4, vr5, vr6, vr7, vr8, vr9, vr10, vr11, vr12, vr13, vr14, vr15, vr16, vr17, vr18, vr19, vr20, vr21, vr22, vr23, vr24, vr25, vr26, vr27, vr28, vr29, vr30, vr31, vr32, vr33, vr34, opS, fpS, okP, pack, nAl, allocA, shId, leaves, fillA, fillR, splice, Nat.reduceLT, Nat.reduceEqDiff, Nat.reduceLeDiff, Nat.reduceAdd, Nat.reduceSub, Nat.reduceMul, Int.reduceBEq, Int.reduceBNe, Int.reduceLT, Int.reduceLE, Int.reduceEq, reduceIte, reduceCtorEq, da, int, boolA, h1, h2, h3, h26, h27]
    · have lid := Heap.get_lt hr
      have d0 : 0 ≠ id := fun e => by subst e; rw [k0] at hr; exact hn0 _ _ (Option.some.inj hr)
      have d1 : 1 ≠ id := fun e => by subst e; rw [k1] at hr; exact hn1 _ _ (Option.some.inj hr)
      have d2 : 2 ≠ id := fun e => by subst e; rw [k2] at hr; cases hr
      have oid := fun L => hx_get_old K L id lid
      have pid := fun L b => hx_set_old K L b id lid
      have o2' : ∀ (L : List Blk) (b : Blk), (hx (K.set id b) L).get 2 = K.get 2 := fun L b => by
        rw [hx_get_old _ _ _ (by simpa using l2), Heap.get_set_ne _ d2]
      have p2' : ∀ (L : List Blk) (b c : Blk), (hx (K.set id b) L).set 2 c = hx ((K.set id b).set 2 c) L := fun L b c => hx_set_old _ L c 2 (by simpa using l2)
      have hlen : ((n.kids.take i).map kidC).length = i := by simp; omega
      have hb : (i + 1) * 32 ≤ 140737488355328 := by omega
      have hr' := hr
      have nle : (i + 1 ≤ i) = False := eq_false (by omega)
      simp only [↓vp, vq0, vq1, vq2, vq3, vr0, vr1, vr2, vr3, vr4, vr5, vr6, vr7, vr8, vr9, vr10, vr11, vr12, vr13, vr14, vr15, vr16, vr17, vr18, vr19, vr20, vr21, vr22, vr23, vr24, vr25, vr26, vr27, vr28, vr29, vr30, vr31, vr32, vr33, vr34, opS, fpS, okP, pack, nAl, allocA, shId, leaves, fillA, fillR, splice, Nat.reduceLT, Nat.reduceEqDiff, Nat.reduceLeDiff, Nat.reduceAdd, Nat.reduceSub, Nat.reduceMul, Int.reduceBEq, Int.reduceBNe, Int.reduceLT, Int.reduceLE, Int.reduceEq, reduceIte, reduceCtorEq, da, int, boolA, h1, h2, h3, h26, h27, h28, g, atK gi, cK gi, k2, o2, p2, w1, oid, pid, o2', p2', hr, hlen, hb, List.take_of_length_le (Nat.le_of_eq hlen), List.length_take, nle]
      rw [← hx_nil (hx _ _)]
      have q0 : ∀ (j : Nat) (b c : Blk) (L : List Blk), j ≠ 2 → j ≠ id → j < K.next → (hx ((K.set id c).set 2 b) L).get j = K.get j := fun j b c L hj hj2 hl => by
        rw [hx_get_old _ _ _ (by simpa using hl), Heap.get_set_ne _ hj, Heap.get_set_ne _ hj2]
      have q2 : ∀ (b c : Blk) (L : List Blk), (hx ((K.set id c).set 2 b) L).get 2 = some b := fun b c L => by
        rw [hx_get_old _ _ _ (by simpa using l2), Heap.get_set_self _ (by simpa using l2)]
      have hS : Rep (hx ((K.set id .dead).set 2 (.box false [boolA n.leaf, S, .sl (K.next + 2) 0 (i + 1)])) [.box false (kidC n.kids[i]), .row false 2 [kidC n.kids[i]], .row false 2 ((n.kids.take i).map kidC ++ [kidC n.kids[i]])]) 4 S rows := hrS.mono fun j hj => by
        rw [q0 _ _ _ _ (fun e => by subst e; rw [k2] at hj; cases hj) (fun e => by subst e; rw [hr'] at hj; cases hj) (Heap.get_lt hj)]
        exact hj
      refine ih (i + 1) (.sl (K.next + 2) 0 (i + 1)) _ _ (by omega) (.inr ⟨K.next + 2, ?_, ?_⟩) hS ?_ ?_ ?_ ?_ ?_ ?_ ?_ ?_ ?_
      · rw [ht, List.length_append, hlen]; rfl
      · rw [ht]
        simp only [↓vp, vq0, vq1, vq2, vq3, vr0, vr1, vr2, vr3, vr4, vr5, vr6, vr7, vr8, vr9, vr10, vr11, vr12, vr13, vr14, vr15, vr16, vr17, vr18, vr19, vr20, vr21, vr22, vr23, vr24, vr25, vr26, vr27, vr28, vr29, vr30, vr31, vr32, vr33, vr34, opS, fpS, okP, pack, nAl, allocA, shId, leaves, fillA, fillR, splice, Nat.reduceLT, Nat.reduceEqDiff, Nat.reduceLeDiff, Nat.reduceAdd, Nat.reduceSub, Nat.reduceMul, Int.reduceBEq, Int.reduceBNe, Int.reduceLT, Int.reduceLE, Int.reduceEq, reduceIte, reduceCtorEq]
      · rw [q0 _ _ _ _ (by decide) d0 l0]; exact k0
      · rw [q0 _ _ _ _ (by decide) d1 l1]; exact k1
      · rw [q2]; rfl
      all_goals simp only [↓vp, vq0, vq1, vq2, vq3, vr0, vr1, vr2, vr3, vr4, vr5, vr6, vr7, vr8, vr9, vr10, vr11, vr12, vr13, vr14, vr15, vr16, vr17, vr18, vr19, vr20, vr21, vr22, vr23, vr24, vr25, vr26, vr27, vr28, vr29, vr30, vr31, vr32, vr33, vr34, opS, fpS, okP, pack, nAl, allocA, shId, leaves, fillA, fillR, splice, Nat.reduceLT, Nat.reduceEqDiff, Nat.reduceLeDiff, Nat.reduceAdd, Nat.reduceSub, Nat.reduceMul, Int.reduceBEq, Int.reduceBNe, Int.reduceLT, Int.reduceLE, Int.reduceEq, reduceIte, reduceCtorEq, da, int, boolA, h1, h2, h3, h26, h27]
theorem s20 (n : NodeM) (hs : n.items.length ≤ 1000) (hs2 : n.kids.length ≤ 1000) (H : Heap) : callL ft (.fn (.func 20) [] []) [.agg (nodeC n)] H = some (.agg (nodeC n), H) := by
  refine call_p (as' := [.agg (nodeC n)]) rfl rfl (by simp) ?_
  unfold c20 r20
  simp only [↓vp, vq0, vq1, vq2, vq3, vr0, vr1, vr2, vr3, vr4, vr5, vr6, vr7, vr8, vr9, vr10, vr11, vr12, vr13, vr14, vr15, vr16, vr17, vr18, vr19, vr20, vr21, vr22, vr23, vr24, vr25, vr26, vr27, vr28, vr29, vr30, vr31, vr32, vr33, vr34, opS, fpS, okP, pack, nAl, allocA, shId, leaves, fillA, fillR, splice, Nat.reduceLT, Nat.reduceEqDiff, Nat.reduceLeDiff, Nat.reduceAdd, Nat.reduceSub, Nat.reduceMul, Int.reduceBEq, Int.reduceBNe, Int.reduceLT, Int.reduceLE, Int.reduceEq, reduceIte, reduceCtorEq, da, int, boolA]
  rw [← hx_nil (hx _ _)]
  refine l20a n hs (B0 := .box false (nodeC n)) (B1 := .box false [.sc (.bool false), .sc (.slice none 0 0), .sc (.slice none 0 0)]) (by simp) (by simp) (fun f' K S hr k0 k1 k2 h1 h2 h3 => ?_) n.items.length 0 (.sc (.slice none 0 0)) _ _ (by omega) (.inl ⟨rfl, rfl⟩) ?_ ?_ ?_ ?_ ?_ ?_ ?_ ?_ ?_
  · unfold c20R3
    have l0 := Heap.get_lt k0
    have l1 := Heap.get_lt k1
    have l2 := Heap.get_lt k2
    have o0 := fun L => hx_get_old K L 0 l0
    have o1 := fun L => hx_get_old K L 1 l1
    have o2 := fun L => hx_get_old K L 2 l2
    simp only [↓vp, vq0, vq1, vq2, vq3, vr0, vr1, vr2, vr3, vr4, vr5, vr6, vr7, vr8, vr9, vr10, vr11, vr12, vr13, vr14, vr15, vr16, vr17, vr18, vr19, vr20, vr21, vr22, vr23, vr24, vr25, vr26, vr27, vr28, vr29, vr30, vr31, vr32, vr33, vr34, opS, fpS, okP, pack, nAl, allocA, shId, leaves, fillA, fillR, splice, Nat.reduceLT, Nat.reduceEqDiff, Nat.reduceLeDiff, Nat.reduceAdd, Nat.reduceSub, Nat.reduceMul, Int.reduceBEq, Int.reduceBNe, Int.reduceLT, Int.reduceLE, Int.reduceEq, reduceIte, reduceCtorEq, da, int, boolA, h1, h2, h3, o0, k0]
    refine l20b n hs2 (B0 := .box false (nodeC n)) (by simp) (by simp) (fun f'' K' T hr' hs' k0' k1' k2' h1' h2' h3' => ?_) n.kids.length 0 (.sc (.slice none 0 0)) _ _ (by omega) (.inl ⟨rfl, rfl⟩) hr k0 k1 k2 ?_ ?_ ?_ ?_ ?_ ?_
    · unfold c20R2
      have l1' := Heap.get_lt k1'
      have l2' := Heap.get_lt k2'
      have o1' := fun L => hx_get_old K' L 1 l1'
      have o2' := fun L => hx_get_old K' L 2 l2'
      have p1' := fun L b => hx_set_old K' L b 1 l1'
      have v1 : ∀ L b, (hx (K'.set 1 b) L).get 1 = some b := fun L b => by
        rw [hx_get_old _ _ _ (by simpa using l1'), Heap.get_set_self _ l1']
      have gg : ∀ {j : Nat} {B : Blk} (L : List Blk) (b : Blk), K'.get j = some B → j ≠ 1 → (hx (K'.set 1 b) L).get j = some B := fun L b hj hne => by
        rw [hx_get_old _ _ _ (by simpa using Heap.get_lt hj), Heap.get_set_ne _ hne]
        exact hj
      have gs : ∀ {j : Nat} (L : List Blk) (b c : Blk), j < K'.next → (hx (K'.set 1 b) L).set j c = hx ((K'.set 1 b).set j c) L := fun L b c hj => hx_set_old _ L c _ (by simpa using hj)
      have g3 : ∀ {i j : Nat} {B : Blk} (L : List Blk) (b c : Blk), K'.get j = some B → j ≠ 1 → j ≠ i → (hx ((K'.set 1 b).set i c) L).get j = some B := fun L b c hj hne hne2 => by
        rw [hx_get_old _ _ _ (by simpa using Heap.get_lt hj), Heap.get_set_ne _ hne2, Heap.get_set_ne _ hne]
        exact hj
      rcases hs' with ⟨rfl, e1⟩ | ⟨i1, rfl, g1⟩ <;> rcases hr' with ⟨rfl, e2⟩ | ⟨i2, rfl, g2⟩
      · simp only [↓vp, vq0, vq1, vq2, vq3, vr0, vr1, vr2, vr3, vr4, vr5, vr6, vr7, vr8, vr9, vr10, vr11, vr12, vr13, vr14, vr15, vr16, vr17, vr18, vr19, vr20, vr21, vr22, vr23, vr24, vr25, vr26, vr27, vr28, vr29, vr30, vr31, vr32, vr33, vr34, opS, fpS, okP, pack, nAl, allocA, shId, leaves, fillA, fillR, splice, Nat.reduceLT, Nat.reduceEqDiff, Nat.reduceLeDiff, Nat.reduceAdd, Nat.reduceSub, Nat.reduceMul, Int.reduceBEq, Int.reduceBNe, Int.reduceLT, Int.reduceLE, Int.reduceEq, reduceIte, reduceCtorEq, da, int, boolA, RetP_go, resT, resC, resN, retV1, retV2, retV3, retV0, frzFZ, takeM, Option.some.injEq, h1', h2', h3', o1', o2', k1', k2', p1', v1, nodeC, encI, encK, e1, e2]
      · have n2 : i2 ≠ 1 := fun e => by subst e; rw [k1'] at g2; cases g2
        have q2 := fun L b => gg L b g2 n2
        simp only [↓vp, vq0, vq1, vq2, vq3, vr0, vr1, vr2, vr3, vr4, vr5, vr6, vr7, vr8, vr9, vr10, vr11, vr12, vr13, vr14, vr15, vr16, vr17, vr18, vr19, vr20, vr21, vr22, vr23, vr24, vr25, vr26, vr27, vr28, vr29, vr30, vr31, vr32, vr33, vr34, opS, fpS, okP, pack, nAl, allocA, shId, leaves, fillA, fillR, splice, Nat.reduceLT, Nat.reduceEqDiff, Nat.reduceLeDiff, Nat.reduceAdd, Nat.reduceSub, Nat.reduceMul, Int.reduceBEq, Int.reduceBNe, Int.reduceLT, Int.reduceLE, Int.reduceEq, reduceIte, reduceCtorEq, da, int, boolA, RetP_go, resT, resC, resN, retV1, retV2, retV3, retV0, frzFZ, takeM, Option.some.injEq, h1', h2', h3', o1', o2', k1', k2', p1', v1, q2, nodeC, encI, encK, e1]
      · have n1 : i1 ≠ 1 := fun e => by subst e; rw [k1'] at g1; cases g1
        have q1 := fun L b => gg L b g1 n1
        simp only [↓vp, vq0, vq1, vq2, vq3, vr0, vr1, vr2, vr3, vr4, vr5, vr6, vr7, vr8, vr9, vr10, vr11, vr12, vr13, vr14, vr15, vr16, vr17, vr18, vr19, vr20, vr21, vr22, vr23, vr24, vr25, vr26, vr27, vr28, vr29, vr30, vr31, vr32, vr33, vr34, opS, fpS, okP, pack, nAl, allocA, shId, leaves, fillA, fillR, splice, Nat.reduceLT, Nat.reduceEqDiff, Nat.reduceLeDiff, Nat.reduceAdd, Nat.reduceSub, Nat.reduceMul, Int.reduceBEq, Int.reduceBNe, Int.reduceLT, Int.reduceLE, Int.reduceEq, reduceIte, reduceCtorEq, da, int, boolA, RetP_go, resT, resC, resN, retV1, retV2, retV3, retV0, frzFZ, takeM, Option.some.injEq, h1', h2', h3', o1', o2', k1', k2', p1', v1, q1, nodeC, encI, encK, e2]
      · have n1 : i1 ≠ 1 := fun e => by subst e; rw [k1'] at g1; cases g1
        have n2 : i2 ≠ 1 := fun e => by subst e; rw [k1'] at g2; cases g2
        have n12 : i2 ≠ i1 := fun e => by subst e; rw [g1] at g2; cases g2
        have q1 := fun L b => gg L b g1 n1
        have q2 := fun L b c => g3 (i := i1) L b c g2 n2 n12
        have q3 := fun L b c => gs L b c (Heap.get_lt g1)
        simp only [↓vp, vq0, vq1, vq2, vq3, vr0, vr1, vr2, vr3, vr4, vr5, vr6, vr7, vr8, vr9, vr10, vr11, vr12, vr13, vr14, vr15, vr16, vr17, vr18, vr19, vr20, vr21, vr22, vr23, vr24, vr25, vr26, vr27, vr28, vr29, vr30, vr31, vr32, vr33, vr34, opS, fpS, okP, pack, nAl, allocA, shId, leaves, fillA, fillR, splice, Nat.reduceLT, Nat.reduceEqDiff, Nat.reduceLeDiff, Nat.reduceAdd, Nat.reduceSub, Nat.reduceMul, Int.reduceBEq, Int.reduceBNe, Int.reduceLT, Int.reduceLE, Int.reduceEq, reduceIte, reduceCtorEq, da, int, boolA, RetP_go, resT, resC, resN, retV1, retV2, retV3, retV0, frzFZ, takeM, Option.some.injEq, h1', h2', h3', o1', o2', k1', k2', p1', v1, q1, q2, q3, nodeC, encI, encK]
    all_goals first | rfl | (simp only [↓vp, vq0, vq1, vq2, vq3, vr0, vr1, vr2, vr3, vr4, vr5, vr6, vr7, vr8, vr9, vr10, vr11, vr12, vr13, vr14, vr15, vr16, vr17, vr18, vr19, vr20, vr21, vr22, vr23, vr24, vr25, vr26, vr27, vr28, vr29, vr30, vr31, vr32, vr33, vr34, opS, fpS, okP, pack, nAl, allocA, shId, leaves, fillA, fillR, splice, Nat.reduceLT, Nat.reduceEqDiff, Nat.reduceLeDiff, Nat.reduceAdd, Nat.reduceSub, Nat.reduceMul, Int.reduceBEq, Int.reduceBNe, Int.reduceLT, Int.reduceLE, Int.reduceEq, reduceIte, reduceCtorEq, da, int, boolA, h1, h2, h3]; done)
  all_goals first | rfl | (simp only [↓vp, vq0, vq1, vq2, vq3, vr0, vr1, vr2, vr3, vr4, vr5, vr6, vr7, vr8, vr9, vr10, vr11, vr12, vr13, vr14, vr15, vr16, vr17, vr18, vr19, vr20, vr21, vr22, vr23, vr24, vr25, vr26, vr27, vr28, vr29, vr30, vr31, vr32, vr33, vr34, opS, fpS, okP, pack, nAl, allocA, shId, leaves, fillA, fillR, splice, Nat.reduceLT, Nat.reduceEqDiff, Nat.reduceLeDiff, Nat.reduceAdd, Nat.reduceSub, Nat.reduceMul, Int.reduceBEq, Int.reduceBNe, Int.reduceLT, Int.reduceLE, Int.reduceEq, reduceIte, reduceCtorEq, da, int, boolA]; done)
end Go.VI

set_option linter.unusedVariables false
set_option linter.unusedSimpArgs false
set_option maxRecDepth 100000
namespace Go.VI
attribute [local congr] AW_congr OW_congr DW_congr NW_congr VW_congr GW_congr PW_congr KW_congr ite_congr' GV_congr CV_congr
theorem s25 (n : NodeM) (hs : n.items.length ≤ 1000) (hs2 : n.kids.length ≤ 1000) (H : Heap) : callL ft (.fn (.func 25) [] []) [.agg (nodeC n)] H = some (.agg (nodeC n), H) := by
  have := s20 n hs hs2 H
  rw [callL_fn] at this ⊢
  exact this
theorem s183 {a b : Bytes} (ha : okB a) (hb : okB b) (H : Heap) : callL ft (.fn (.func 183) [] []) [encB a, encB b] H = some (int (cmpB a b), H) := by
  refine call_pprim (p := cmpP) rfl (as' := [encB a, encB b]) rfl ?_
  show ((bytesOfRows (a.map byteC)).bind fun l => (bytesOfRows (b.map byteC)).bind fun k => if byteR l && byteR k then some (AV.sc (.int .i64 (cmpB l k))) else none) = _
  have h1 : bytesOfRows (a.map byteC) = some a := bytesOfRows_map a
  have h2 : bytesOfRows (b.map byteC) = some b := bytesOfRows_map b
  rw [h1, h2, Option.bind_some, Option.bind_some, ha.r, hb.r]
  rfl
theorem k183 {a b : Bytes} (ha : okB a) (hb : okB b) {K : Heap} {L : List Blk} {Q : AV → Heap → Prop} : KW ft (.fn (.func 183) [] []) [encB a, encB b] (hx K L) Q ↔ Q (int (cmpB a b)) (hx K L) := KW_of (s183 ha hb _)
theorem s169 {a b : Bytes} (ha : okB a) (hb : okB b) (H : Heap) : callL ft (.fn (.func 169) [] []) [encB a, encB b] H = some (int (cmpB a b), H) := by
  refine call_p (as' := [encB a, encB b]) rfl rfl (by simp) ?_
  unfold c169 r169
  simp only [↓vp, vq0, vq1, vq2, vq3, vr0, vr1, vr2, vr3, vr4, vr5, vr6, vr7, vr8, vr9, vr10, vr11, vr12, vr13, vr14, vr15, vr16, vr17, vr18, vr19, vr20, vr21, vr22, vr23, vr24, vr25, vr26, vr27, vr28, vr29, vr30, vr31, vr32, vr33, vr34, opS, fpS, okP, pack, nAl, allocA, shId, leaves, fillA, fillR, splice, Nat.reduceLT, Nat.reduceEqDiff, Nat.reduceLeDiff, Nat.reduceAdd, Nat.reduceSub, Nat.reduceMul, Int.reduceBEq, Int.reduceBNe, Int.reduceLT, Int.reduceLE, Int.reduceEq, reduceIte, reduceCtorEq, da, int, boolA, RetP_go, resT, resC, resN, retV1, retV2, retV3, retV0, frzFZ, takeM, Option.some.injEq, k183, ha, hb]
theorem k169 {a b : Bytes} (ha : okB a) (hb : okB b) {K : Heap} {L : List Blk} {Q : AV → Heap → Prop} : KW ft (.fn (.func 169) [] []) [encB a, encB b] (hx K L) Q ↔ Q (int (cmpB a b)) (hx K L) := KW_of (s169 ha hb _)
theorem s136 {a b : Bytes} (ha : okB a) (hb : okB b) (H : Heap) : callL ft (.fn (.func 136) [] []) [encB a, encB b] H = some (int (cmpB a b), H) := by
  refine call_p (as' := [encB a, encB b]) rfl rfl (by simp) ?_
  unfold c136 r136
  simp only [↓vp, vq0, vq1, vq2, vq3, vr0, vr1, vr2, vr3, vr4, vr5, vr6, vr7, vr8, vr9, vr10, vr11, vr12, vr13, vr14, vr15, vr16, vr17, vr18, vr19, vr20, vr21, vr22, vr23, vr24, vr25, vr26, vr27, vr28, vr29, vr30, vr31, vr32, vr33, vr34, opS, fpS, okP, pack, nAl, allocA, shId, leaves, fillA, fillR, splice, Nat.reduceLT, Nat.reduceEqDiff, Nat.reduceLeDiff, Nat.reduceAdd, Nat.reduceSub, Nat.reduceMul, Int.reduceBEq, Int.reduceBNe, Int.reduceLT, Int.reduceLE, Int.reduceEq, reduceIte, reduceCtorEq, da, int, boolA, RetP_go, resT, resC, resN, retV1, retV2, retV3, retV0, frzFZ, takeM, Option.some.injEq, k169, ha, hb]
theorem k136 {a b : Bytes} (ha : okB a) (hb : okB b) {K : Heap} {L : List Blk} {Q : AV → Heap → Prop} : KW ft (.fn (.func 136) [] []) [encB a, encB b] (hx K L) Q ↔ Q (int (cmpB a b)) (hx K L) := KW_of (s136 ha hb _)
theorem s135 {x : ItemM} {b : Bytes} (ha : okB x.key) (hb : okB b) (H : Heap) : callL ft (.fn (.func 135) [] []) [.agg (itemC x), encB b] H = some (int (cmpB x.key b), H) := by
  refine call_p (as' := [.agg (itemC x), encB b]) rfl rfl (by simp) ?_
  unfold c135 r135
  simp only [↓vp, vq0, vq1, vq2, vq3, vr0, vr1, vr2, vr3, vr4, vr5, vr6, vr7, vr8, vr9, vr10, vr11, vr12, vr13, vr14, vr15, vr16, vr17, vr18, vr19, vr20, vr21, vr22, vr23, vr24, vr25, vr26, vr27, vr28, vr29, vr30, vr31, vr32, vr33, vr34, opS, fpS, okP, pack, nAl, allocA, shId, leaves, fillA, fillR, splice, Nat.reduceLT, Nat.reduceEqDiff, Nat.reduceLeDiff, Nat.reduceAdd, Nat.reduceSub, Nat.reduceMul, Int.reduceBEq, Int.reduceBNe, Int.reduceLT, Int.reduceLE, Int.reduceEq, reduceIte, reduceCtorEq, da, int, boolA, RetP_go, resT, resC, resN, retV1, retV2, retV3, retV0, frzFZ, takeM, Option.some.injEq, k136, ha, hb]
theorem k135 {x : ItemM} {b : Bytes} (ha : okB x.key) (hb : okB b) {K : Heap} {L : List Blk} {Q : AV → Heap → Prop} : KW ft (.fn (.func 135) [] []) [.agg (itemC x), encB b] (hx K L) Q ↔ Q (int (cmpB x.key b)) (hx K L) := KW_of (s135 ha hb _)
/-- Where it stops: between i and j. -/
def bsG (l : List ItemM) (key : Bytes) : Nat → Nat → Nat → Nat
  | 0, i, _ => i
  | n + 1, i, j => if i < j then (if cmpB ((l[(i + j) / 2]?).elim [] (·.key)) key < 0 then bsG l key n ((i + j) / 2 + 1) j else bsG l key n i ((i + j) / 2)) else i
def bsM (l : List ItemM) (key : Bytes) : Nat := bsG l key (l.length + 1) 0 l.length
theorem bin_shr1 (t : TypeId) (a : Int) : binA .shr t (.sc (.int .u64 a)) (.sc (.int .u64 1)) = some (.sc (.int .u64 (a.fdiv 2))) := by
  simp [binA, binOp, Op.shift, pureRun, ofScalar, isSc, pure, IntKind.bits]
theorem u64_in {n : Int} (h : 0 ≤ n ∧ n < 18446744073709551616) : IntKind.u64.wrap n = n := by
  simp only [IntKind.wrap, IntKind.bits, IntKind.signed]
  simp
  omega
theorem l134 (l : List ItemM) (key : Bytes) (hl : okI l) (hl2 : l.length < 4000000000000000000) (hk : okB key) {Q : AExit → Env → Heap → Prop}
   (hex : ∀ f', f' 0 = encI l → f' 1 = encB key → f' 2 = .fn (.func 135) [] [] → f' 8 = int l.length → f' 9 = int (bsM l key) → Q (.exit 0) (mkE 49 f') (hx Heap.empty [])) :
   ∀ (n i j : Nat) (f : Nat → AV), j < i + n → i ≤ j → j ≤ l.length → bsM l key = bsG l key n i j → f 0 = encI l → f 1 = encB key → f 2 = .fn (.func 135) [] [] → f 8 = int l.length → f 9 = int i → f 10 = int j →
    AW ft (.loop c134L0) (mkE 49 f) (hx Heap.empty []) Q := by
  intro n
  induction n with
  | zero => intro i j f hn hij; omega
  | succ n ih =>
    intro i j f hn hij hjl hc h0 h1 h2 h8 h9 h10
    rw [AW_loop]
    unfold c134L0
    by_cases hlt : i < j
    · have g : ((i : Int) < j) = True := by simp; omega
      have gi : (i + j) / 2 < l.length := by omega
      have w1 := wrap_succ (show (i + j) / 2 < 9223372036854775807 by omega)
      simp only [↓vp, vq0, vq1, vq2, vq3, vr0, vr1, vr2, vr3, vr4, vr5, vr6, vr7, vr8, vr9, vr10, vr11, vr12, vr13, vr14, vr15, vr16, vr17, vr18, vr19, vr20, vr21, vr22, vr23, vr24, vr25, vr26, vr27, vr28, vr29, vr30, vr31, vr32, vr33, vr34, opS, fpS, okP, pack, nAl, allocA, shId, leaves, fillA, fillR, splice, Nat.reduceLT, Nat.reduceEqDiff, Nat.reduceLeDiff, Nat.reduceAdd, Nat.reduceSub, Nat.reduceMul, Int.reduceBEq, Int.reduceBNe, Int.reduceLT, Int.reduceLE, Int.reduceEq, reduceIte, reduceCtorEq, da, int, boolA, h0, h1, h2, h8, h9, h10, g]
      have q1 : IntKind.u64.wrap (IntKind.i64.wrap ((i : Int) + j)) = ((i + j : Nat) : Int) := by
        rw [wrap_i64 (by omega), u64_in (by omega)]; omega
      have q2 : ((i + j : Nat) : Int).fdiv 2 = (((i + j) / 2 : Nat) : Int) := by
        rw [Int.fdiv_eq_ediv_of_nonneg _ (by omega)]; omega
      have q3 : IntKind.i64.wrap (((i + j) / 2 : Nat) : Int) = (((i + j) / 2 : Nat) : Int) := wrap_i64 (by omega)
      have hx1 := (hl.at_ gi).k
      have hel : (l[(i + j) / 2]?).elim [] (·.key) = l[(i + j) / 2].key := by rw [List.getElem?_eq_getElem gi]; rfl
      rw [bsG, if_pos hlt, hel] at hc
      by_cases e1 : cmpB l[(i + j) / 2].key key < 0
      · rw [if_pos e1] at hc
        simp only [↓vp, vq0, vq1, vq2, vq3, vr0, vr1, vr2, vr3, vr4, vr5, vr6, vr7, vr8, vr9, vr10, vr11, vr12, vr13, vr14, vr15, vr16, vr17, vr18, vr19, vr20, vr21, vr22, vr23, vr24, vr25, vr26, vr27, vr28, vr29, vr30, vr31, vr32, vr33, vr34, opS, fpS, okP, pack, nAl, allocA, shId, leaves, fillA, fillR, splice, Nat.reduceLT, Nat.reduceEqDiff, Nat.reduceLeDiff, Nat.reduceAdd, Nat.reduceSub, Nat.reduceMul, Int.reduceBEq, Int.reduceBNe, Int.reduceLT, Int.reduceLE, Int.reduceEq, reduceIte, reduceCtorEq, da, int, boolA, h0, h1, h2, h8, h9, h10, g, q1, q2, q3, bin_shr1, atI gi, cI gi, k135, hx1, hk, e1, w1]
        refine ih ((i + j) / 2 + 1) j _ (by omega) (by omega) hjl hc ?_ ?_ ?_ ?_ ?_ ?_ <;> simp only [↓vp, vq0, vq1, vq2, vq3, vr0, vr1, vr2, vr3, vr4, vr5, vr6, vr7, vr8, vr9, vr10, vr11, vr12, vr13, vr14, vr15, vr16, vr17, vr18, vr19, vr20, vr21, vr22, vr23, vr24, vr25, vr26, vr27, vr28, vr29, vr30, vr31, vr32, vr33, vr34, opS, fpS, okP, pack, nAl, allocA, shId, leaves, fillA, fillR, splice, Nat.reduceLT, Nat.reduceEqDiff, Nat.reduceLeDiff, Nat.reduceAdd, Nat.reduceSub, Nat.reduceMul, Int.reduceBEq, Int.reduceBNe, Int.reduceLT, Int.reduceLE, Int.reduceEq, reduceIte, reduceCtorEq, da, int, boolA, h0, h1, h2, h8, h9, h10]
      · rw [if_neg e1] at hc
        simp only [↓vp, vq0, vq1, vq2, vq3, vr0, vr1, vr2, vr3, vr4, vr5, vr6, vr7, vr8, vr9, vr10, vr11, vr12, vr13, vr14, vr15, vr16, vr17, vr18, vr19, vr20, vr21, vr22, vr23, vr24, vr25, vr26, vr27, vr28, vr29, vr30, vr31, vr32, vr33, vr34, opS, fpS, okP, pack, nAl, allocA, shId, leaves, fillA, fillR, splice, Nat.reduceLT, Nat.reduceEqDiff, Nat.reduceLeDiff, Nat.reduceAdd, Nat.reduceSub, Nat.reduceMul, Int.reduceBEq, Int.reduceBNe, Int.reduceLT, Int.reduceLE, Int.reduceEq, reduceIte, reduceCtorEq, da, int, boolA, h0, h1, h2, h8, h9, h10, g, q1, q2, q3, bin_shr1, atI gi, cI gi, k135, hx1, hk, e1, w1]
        refine ih i ((i + j) / 2) _ (by omega) (by omega) (by omega) hc ?_ ?_ ?_ ?_ ?_ ?_ <;> simp only [↓vp, vq0, vq1, vq2, vq3, vr0, vr1, vr2, vr3, vr4, vr5, vr6, vr7, vr8, vr9, vr10, vr11, vr12, vr13, vr14, vr15, vr16, vr17, vr18, vr19, vr20, vr21, vr22, vr23, vr24, vr25, vr26, vr27, vr28, vr29, vr30, vr31, vr32, vr33, vr34, opS, fpS, okP, pack, nAl, allocA, shId, leaves, fillA, fillR, splice, Nat.reduceLT, Nat.reduceEqDiff, Nat.reduceLeDiff, Nat.reduceAdd, Nat.reduceSub, Nat.reduceMul, Int.reduceBEq, Int.reduceBNe, Int.reduceLT, Int.reduceLE, Int.reduceEq, reduceIte, reduceCtorEq, da, int, boolA, h0, h1, h2, h8, h9, h10]
    · have g : ((i : Int) < j) = False := by simp; omega
      rw [bsG, if_neg hlt] at hc
      simp only [↓vp, vq0, vq1, vq2, vq3, vr0, vr1, vr2, vr3, vr4, vr5, vr6, vr7, vr8, vr9, vr10, vr11, vr12, vr13, vr14, vr15, vr16, vr17, vr18, vr19, vr20, vr21, vr22, vr23, vr24, vr25, vr26, vr27, vr28, vr29, vr30, vr31, vr32, vr33, vr34, opS, fpS, okP, pack, nAl, allocA, shId, leaves, fillA, fillR, splice, Nat.reduceLT, Nat.reduceEqDiff, Nat.reduceLeDiff, Nat.reduceAdd, Nat.reduceSub, Nat.reduceMul, Int.reduceBEq, Int.reduceBNe, Int.reduceLT, Int.reduceLE, Int.reduceEq, reduceIte, reduceCtorEq, da, int, boolA, h9, h10, g]
      refine hex _ ?_ ?_ ?_ ?_ ?_ <;> simp only [↓vp, vq0, vq1, vq2, vq3, vr0, vr1, vr2, vr3, vr4, vr5, vr6, vr7, vr8, vr9, vr10, vr11, vr12, vr13, vr14, vr15, vr16, vr17, vr18, vr19, vr20, vr21, vr22, vr23, vr24, vr25, vr26, vr27, vr28, vr29, vr30, vr31, vr32, vr33, vr34, opS, fpS, okP, pack, nAl, allocA, shId, leaves, fillA, fillR, splice, Nat.reduceLT, Nat.reduceEqDiff, Nat.reduceLeDiff, Nat.reduceAdd, Nat.reduceSub, Nat.reduceMul, Int.reduceBEq, Int.reduceBNe, Int.reduceLT, Int.reduceLE, Int.reduceEq, reduceIte, reduceCtorEq, da, int, boolA, h0, h1, h2, h8, h9, hc]
/-- Does it stand where the search stopped? -/
def bsIs (l : List ItemM) (key : Bytes) : Bool := match l[bsM l key]? with
  | some x => cmpB x.key key == 0
  | none => false
theorem s134 (l : List ItemM) (key : Bytes) (hl : okI l) (hl2 : l.length < 4000000000000000000) (hk : okB key) (H : Heap) : callL ft (.fn (.func 134) [] []) [encI l, encB key, .fn (.func 135) [] []] H = some (.tup [int (bsM l key), boolA (bsIs l key)], H) := by
  refine call_p (as' := [encI l, encB key, .fn (.func 135) [] []]) rfl rfl (by simp) ?_
  unfold c134 r134
  simp only [↓vp, vq0, vq1, vq2, vq3, vr0, vr1, vr2, vr3, vr4, vr5, vr6, vr7, vr8, vr9, vr10, vr11, vr12, vr13, vr14, vr15, vr16, vr17, vr18, vr19, vr20, vr21, vr22, vr23, vr24, vr25, vr26, vr27, vr28, vr29, vr30, vr31, vr32, vr33, vr34, opS, fpS, okP, pack, nAl, allocA, shId, leaves, fillA, fillR, splice, Nat.reduceLT, Nat.reduceEqDiff, Nat.reduceLeDiff, Nat.reduceAdd, Nat.reduceSub, Nat.reduceMul, Int.reduceBEq, Int.reduceBNe, Int.reduceLT, Int.reduceLE, Int.reduceEq, reduceIte, reduceCtorEq, da, int, boolA]
  refine l134 l key hl hl2 hk (fun f' h0 h1 h2 h8 h9 => ?_) (l.length + 1) 0 l.length _ (by omega) (by omega) (by omega) rfl ?_ ?_ ?_ ?_ ?_ ?_
  · unfold c134R1
    by_cases g : bsM l key < l.length
    · have g' : ((bsM l key : Int) < l.length) = True := by simp; omega
      have hx1 := (hl.at_ g).k
      have hel : l[bsM l key]? = some l[bsM l key] := List.getElem?_eq_getElem g
      simp only [↓vp, vq0, vq1, vq2, vq3, vr0, vr1, vr2, vr3, vr4, vr5, vr6, vr7, vr8, vr9, vr10, vr11, vr12, vr13, vr14, vr15, vr16, vr17, vr18, vr19, vr20, vr21, vr22, vr23, vr24, vr25, vr26, vr27, vr28, vr29, vr30, vr31, vr32, vr33, vr34, opS, fpS, okP, pack, nAl, allocA, shId, leaves, fillA, fillR, splice, Nat.reduceLT, Nat.reduceEqDiff, Nat.reduceLeDiff, Nat.reduceAdd, Nat.reduceSub, Nat.reduceMul, Int.reduceBEq, Int.reduceBNe, Int.reduceLT, Int.reduceLE, Int.reduceEq, reduceIte, reduceCtorEq, da, int, boolA, RetP_go, resT, resC, resN, retV1, retV2, retV3, retV0, frzFZ, takeM, Option.some.injEq, h0, h1, h2, h8, h9, g', atI g, cI g, k135, hx1, hk, bsIs, hel]
    · have g' : ((bsM l key : Int) < l.length) = False := by simp; omega
      have hel : l[bsM l key]? = none := List.getElem?_eq_none (by omega)
      simp only [↓vp, vq0, vq1, vq2, vq3, vr0, vr1, vr2, vr3, vr4, vr5, vr6, vr7, vr8, vr9, vr10, vr11, vr12, vr13, vr14, vr15, vr16, vr17, vr18, vr19, vr20, vr21, vr22, vr23, vr24, vr25, vr26, vr27, vr28, vr29, vr30, vr31, vr32, vr33, vr34, opS, fpS, okP, pack, nAl, allocA, shId, leaves, fillA, fillR, splice, Nat.reduceLT, Nat.reduceEqDiff, Nat.reduceLeDiff, Nat.reduceAdd, Nat.reduceSub, Nat.reduceMul, Int.reduceBEq, Int.reduceBNe, Int.reduceLT, Int.reduceLE, Int.reduceEq, reduceIte, reduceCtorEq, da, int, boolA, RetP_go, resT, resC, resN, retV1, retV2, retV3, retV0, frzFZ, takeM, Option.some.injEq, h0, h1, h2, h8, h9, g', bsIs, hel]
  all_goals first | rfl | (simp only [↓vp, vq0, vq1, vq2, vq3, vr0, vr1, vr2, vr3, vr4, vr5, vr6, vr7, vr8, vr9, vr10, vr11, vr12, vr13, vr14, vr15, vr16, vr17, vr18, vr19, vr20, vr21, vr22, vr23, vr24, vr25, vr26, vr27, vr28, vr29, vr30, vr31, vr32, vr33, vr34, opS, fpS, okP, pack, nAl, allocA, shId, leaves, fillA, fillR, splice, Nat.reduceLT, Nat.reduceEqDiff, Nat.reduceLeDiff, Nat.reduceAdd, Nat.reduceSub, Nat.reduceMul, Int.reduceBEq, Int.reduceBNe, Int.reduceLT, Int.reduceLE, Int.reduceEq, reduceIte, reduceCtorEq, da, int, boolA]; done)
theorem k134 {l : List ItemM} {key : Bytes} (hl : okI l) (hl2 : l.length < 4000000000000000000) (hk : okB key) {K : Heap} {L : List Blk} {Q : AV → Heap → Prop} :
    KW ft (.fn (.func 134) [] []) [encI l, encB key, .fn (.func 135) [] []] (hx K L) Q ↔ Q (.tup [int (bsM l key), boolA (bsIs l key)]) (hx K L) := KW_of (s134 l key hl hl2 hk _)
theorem s76 (n : NodeM) (key : Bytes) (hn : okN n) (hl2 : n.items.length < 4000000000000000000) (hk : okB key) (H : Heap) : callL ft (.fn (.func 76) [] []) [.agg (nodeC n), encB key] H = some (.tup [int (bsM n.items key), boolA (bsIs n.items key)], H) := by
  refine call_p (as' := [.agg (nodeC n), encB key]) rfl rfl (by simp) ?_
  have h1 := hn.i
  unfold c76 r76
  simp only [↓vp, vq0, vq1, vq2, vq3, vr0, vr1, vr2, vr3, vr4, vr5, vr6, vr7, vr8, vr9, vr10, vr11, vr12, vr13, vr14, vr15, vr16, vr17, vr18, vr19, vr20, vr21, vr22, vr23, vr24, vr25, vr26, vr27, vr28, vr29, vr30, vr31, vr32, vr33, vr34, opS, fpS, okP, pack, nAl, allocA, shId, leaves, fillA, fillR, splice, Nat.reduceLT, Nat.reduceEqDiff, Nat.reduceLeDiff, Nat.reduceAdd, Nat.reduceSub, Nat.reduceMul, Int.reduceBEq, Int.reduceBNe, Int.reduceLT, Int.reduceLE, Int.reduceEq, reduceIte, reduceCtorEq, da, int, boolA, RetP_go, resT, resC, resN, retV1, retV2, retV3, retV0, frzFZ, takeM, Option.some.injEq, k134, h1, hl2, hk]
end Go.VI

set_option linter.unusedVariables false
set_option linter.unusedSimpArgs false
set_option maxRecDepth 100000
namespace Go.VI
attribute [local congr] AW_congr OW_congr DW_congr NW_congr VW_congr GW_congr PW_congr KW_congr ite_congr' GV_congr CV_congr
def sideD (l : List KidM) (key : Bytes) : Nat → Nat
  | 0 => 0
  | k + 1 => if 0 < cmpB ((l[k + 1]?).elim [] (·.key)) key then sideD l key k else k + 1
def sideP (l : List KidM) (key : Bytes) : Nat := sideD l key (l.length - 1)
theorem wrap_pred {i : Nat} (h : i < 9223372036854775807) : IntKind.i64.wrap (((i + 1 : Nat) : Int) - 1) = (i : Int) := by
  rw [wrap_i64 (by omega)]; omega
theorem l78 (n : NodeM) (key : Bytes) (hn : okN n) (hk : okB key) {L : List Blk} {Q : AExit → Env → Heap → Prop} (hL : L[0]? = some (.box false (nodeC n)))
   (hex : ∀ f', f' 5 = int (sideP n.kids key) → Q (.exit 0) (mkE 27 f') (hx Heap.empty L)) :
   ∀ (k : Nat) (f : Nat → AV), k < n.kids.length → sideP n.kids key = sideD n.kids key k → f 1 = encB key → f 2 = .ptr 0 0 0 → f 5 = int k →
    AW ft (.loop c78L0) (mkE 27 f) (hx Heap.empty L) Q := by
  intro k
  have hi := hn.k.n
  unfold MX at hi
  induction k with
  | zero =>
    intro f hd hc h1 h2 h5
    rw [AW_loop]
    unfold c78L0
    have g : ((0 : Int) < ((0 : Nat) : Int)) = False := by simp
    simp only [↓vp, vq0, vq1, vq2, vq3, vr0, vr1, vr2, vr3, vr4, vr5, vr6, vr7, vr8, vr9, vr10, vr11, vr12, vr13, vr14, vr15, vr16, vr17, vr18, vr19, vr20, vr21, vr22, vr23, vr24, vr25, vr26, vr27, vr28, vr29, vr30, vr31, vr32, vr33, vr34, opS, fpS, okP, pack, nAl, allocA, shId, leaves, fillA, fillR, splice, Nat.reduceLT, Nat.reduceEqDiff, Nat.reduceLeDiff, Nat.reduceAdd, Nat.reduceSub, Nat.reduceMul, Int.reduceBEq, Int.reduceBNe, Int.reduceLT, Int.reduceLE, Int.reduceEq, reduceIte, reduceCtorEq, da, int, boolA, hL, h1, h2, h5, g]
    refine hex _ ?_
    simp only [↓vp, vq0, vq1, vq2, vq3, vr0, vr1, vr2, vr3, vr4, vr5, vr6, vr7, vr8, vr9, vr10, vr11, vr12, vr13, vr14, vr15, vr16, vr17, vr18, vr19, vr20, vr21, vr22, vr23, vr24, vr25, vr26, vr27, vr28, vr29, vr30, vr31, vr32, vr33, vr34, opS, fpS, okP, pack, nAl, allocA, shId, leaves, fillA, fillR, splice, Nat.reduceLT, Nat.reduceEqDiff, Nat.reduceLeDiff, Nat.reduceAdd, Nat.reduceSub, Nat.reduceMul, Int.reduceBEq, Int.reduceBNe, Int.reduceLT, Int.reduceLE, Int.reduceEq, reduceIte, reduceCtorEq, da, int, boolA, h5, hc, sideD]
  | succ k ih =>
    intro f hd hc h1 h2 h5
    have g : ((0 : Int) < ((k + 1 : Nat) : Int)) = True := eq_true (by omega)
    have hkey := hn.k.at_ hd
    have w1 := wrap_pred (show k < 9223372036854775807 by omega)
    rw [sideD, List.getElem?_eq_getElem hd, Option.elim_some] at hc
    rw [AW_loop]
    unfold c78L0
    by_cases e1 : 0 < cmpB n.kids[k + 1].key key
    · rw [if_pos e1] at hc
      simp only [↓vp, vq0, vq1, vq2, vq3, vr0, vr1, vr2, vr3, vr4, vr5, vr6, vr7, vr8, vr9, vr10, vr11, vr12, vr13, vr14, vr15, vr16, vr17, vr18, vr19, vr20, vr21, vr22, vr23, vr24, vr25, vr26, vr27, vr28, vr29, vr30, vr31, vr32, vr33, vr34, opS, fpS, okP, pack, nAl, allocA, shId, leaves, fillA, fillR, splice, Nat.reduceLT, Nat.reduceEqDiff, Nat.reduceLeDiff, Nat.reduceAdd, Nat.reduceSub, Nat.reduceMul, Int.reduceBEq, Int.reduceBNe, Int.reduceLT, Int.reduceLE, Int.reduceEq, reduceIte, reduceCtorEq, da, int, boolA, hL, h1, h2, h5, g, atK hd, cK hd, k136, hkey, hk, e1, w1]
      refine ih _ (by omega) hc ?_ ?_ ?_ <;> simp only [↓vp, vq0, vq1, vq2, vq3, vr0, vr1, vr2, vr3, vr4, vr5, vr6, vr7, vr8, vr9, vr10, vr11, vr12, vr13, vr14, vr15, vr16, vr17, vr18, vr19, vr20, vr21, vr22, vr23, vr24, vr25, vr26, vr27, vr28, vr29, vr30, vr31, vr32, vr33, vr34, opS, fpS, okP, pack, nAl, allocA, shId, leaves, fillA, fillR, splice, Nat.reduceLT, Nat.reduceEqDiff, Nat.reduceLeDiff, Nat.reduceAdd, Nat.reduceSub, Nat.reduceMul, Int.reduceBEq, Int.reduceBNe, Int.reduceLT, Int.reduceLE, Int.reduceEq, reduceIte, reduceCtorEq, da, int, boolA, h1, h2, h5]
    · rw [if_neg e1] at hc
      simp only [↓vp, vq0, vq1, vq2, vq3, vr0, vr1, vr2, vr3, vr4, vr5, vr6, vr7, vr8, vr9, vr10, vr11, vr12, vr13, vr14, vr15, vr16, vr17, vr18, vr19, vr20, vr21, vr22, vr23, vr24, vr25, vr26, vr27, vr28, vr29, vr30, vr31, vr32, vr33, vr34, opS, fpS, okP, pack, nAl, allocA, shId, leaves, fillA, fillR, splice, Nat.reduceLT, Nat.reduceEqDiff, Nat.reduceLeDiff, Nat.reduceAdd, Nat.reduceSub, Nat.reduceMul, Int.reduceBEq, Int.reduceBNe, Int.reduceLT, Int.reduceLE, Int.reduceEq, reduceIte, reduceCtorEq, da, int, boolA, hL, h1, h2, h5, g, atK hd, cK hd, k136, hkey, hk, e1, w1]
      refine hex _ ?_
      simp only [↓vp, vq0, vq1, vq2, vq3, vr0, vr1, vr2, vr3, vr4, vr5, vr6, vr7, vr8, vr9, vr10, vr11, vr12, vr13, vr14, vr15, vr16, vr17, vr18, vr19, vr20, vr21, vr22, vr23, vr24, vr25, vr26, vr27, vr28, vr29, vr30, vr31, vr32, vr33, vr34, opS, fpS, okP, pack, nAl, allocA, shId, leaves, fillA, fillR, splice, Nat.reduceLT, Nat.reduceEqDiff, Nat.reduceLeDiff, Nat.reduceAdd, Nat.reduceSub, Nat.reduceMul, Int.reduceBEq, Int.reduceBNe, Int.reduceLT, Int.reduceLE, Int.reduceEq, reduceIte, reduceCtorEq, da, int, boolA, h5, hc]
theorem s78 (n : NodeM) (key : Bytes) (hn : okN n) (hk : okB key) (H : Heap) : callL ft (.fn (.func 78) [] []) [.agg (nodeC n), encB key] H = some (int (sideP n.kids key), H) := by
  refine call_p (as' := [.agg (nodeC n), encB key]) rfl rfl (by simp) ?_
  have hi := hn.k.n
  unfold MX at hi
  unfold c78 r78
  simp only [↓vp, vq0, vq1, vq2, vq3, vr0, vr1, vr2, vr3, vr4, vr5, vr6, vr7, vr8, vr9, vr10, vr11, vr12, vr13, vr14, vr15, vr16, vr17, vr18, vr19, vr20, vr21, vr22, vr23, vr24, vr25, vr26, vr27, vr28, vr29, vr30, vr31, vr32, vr33, vr34, opS, fpS, okP, pack, nAl, allocA, shId, leaves, fillA, fillR, splice, Nat.reduceLT, Nat.reduceEqDiff, Nat.reduceLeDiff, Nat.reduceAdd, Nat.reduceSub, Nat.reduceMul, Int.reduceBEq, Int.reduceBNe, Int.reduceLT, Int.reduceLE, Int.reduceEq, reduceIte, reduceCtorEq, da, int, boolA]
  by_cases h0 : n.kids.length = 0
  · have w0 : IntKind.i64.wrap ((n.kids.length : Int) - 1) = -1 := by rw [wrap_i64 (by omega)]; omega
    have g : ((0 : Int) < -1) = False := by simp
    rw [AW_loop, w0]
    unfold c78L0 c78R1
    have hs : sideP n.kids key = 0 := by rw [sideP, h0]; rfl
    simp only [↓vp, vq0, vq1, vq2, vq3, vr0, vr1, vr2, vr3, vr4, vr5, vr6, vr7, vr8, vr9, vr10, vr11, vr12, vr13, vr14, vr15, vr16, vr17, vr18, vr19, vr20, vr21, vr22, vr23, vr24, vr25, vr26, vr27, vr28, vr29, vr30, vr31, vr32, vr33, vr34, opS, fpS, okP, pack, nAl, allocA, shId, leaves, fillA, fillR, splice, Nat.reduceLT, Nat.reduceEqDiff, Nat.reduceLeDiff, Nat.reduceAdd, Nat.reduceSub, Nat.reduceMul, Int.reduceBEq, Int.reduceBNe, Int.reduceLT, Int.reduceLE, Int.reduceEq, reduceIte, reduceCtorEq, da, int, boolA, RetP_go, resT, resC, resN, retV1, retV2, retV3, retV0, frzFZ, takeM, Option.some.injEq, g]
    rw [hs]; rfl
  · refine l78 n key hn hk rfl (fun f' h5 => ?_) (n.kids.length - 1) _ (by omega) rfl ?_ ?_ ?_
    · unfold c78R1
      have g : ((sideP n.kids key : Int) < 0) = False := by simp
      simp only [↓vp, vq0, vq1, vq2, vq3, vr0, vr1, vr2, vr3, vr4, vr5, vr6, vr7, vr8, vr9, vr10, vr11, vr12, vr13, vr14, vr15, vr16, vr17, vr18, vr19, vr20, vr21, vr22, vr23, vr24, vr25, vr26, vr27, vr28, vr29, vr30, vr31, vr32, vr33, vr34, opS, fpS, okP, pack, nAl, allocA, shId, leaves, fillA, fillR, splice, Nat.reduceLT, Nat.reduceEqDiff, Nat.reduceLeDiff, Nat.reduceAdd, Nat.reduceSub, Nat.reduceMul, Int.reduceBEq, Int.reduceBNe, Int.reduceLT, Int.reduceLE, Int.reduceEq, reduceIte, reduceCtorEq, da, int, boolA, RetP_go, resT, resC, resN, retV1, retV2, retV3, retV0, frzFZ, takeM, Option.some.injEq, h5, g]
    · rfl
    · rfl
    · simp only [↓vp, vq0, vq1, vq2, vq3, vr0, vr1, vr2, vr3, vr4, vr5, vr6, vr7, vr8, vr9, vr10, vr11, vr12, vr13, vr14, vr15, vr16, vr17, vr18, vr19, vr20, vr21, vr22, vr23, vr24, vr25, vr26, vr27, vr28, vr29, vr30, vr31, vr32, vr33, vr34, opS, fpS, okP, pack, nAl, allocA, shId, leaves, fillA, fillR, splice, Nat.reduceLT, Nat.reduceEqDiff, Nat.reduceLeDiff, Nat.reduceAdd, Nat.reduceSub, Nat.reduceMul, Int.reduceBEq, Int.reduceBNe, Int.reduceLT, Int.reduceLE, Int.reduceEq, reduceIte, reduceCtorEq, da, int, boolA]
      rw [wrap_i64 (by omega)]
      congr 2
      omega
end Go.VI

set_option linter.unusedVariables false
set_option linter.unusedSimpArgs false
set_option maxRecDepth 100000
namespace Go.VI
attribute [local congr] AW_congr OW_congr DW_congr NW_congr VW_congr GW_congr PW_congr KW_congr ite_congr' GV_congr CV_congr
def gen (g : Int) : Bool := decide (1 ≤ g) && decide (g ≤ 3)
def tr (a b c g : Int) : Int := if g = 1 then a else if g = 2 then b else if g = 3 then c else 0
abbrev mxk : Int → Int := tr 16 20 24
abbrev mxv : Int → Int := tr 400 800 1600
abbrev idw : Int → Int := tr 4 8 8
abbrev hdw : Int → Int := tr 8 16 16
abbrev capG : Int → Int := tr 248 240 240
theorem g_cases (g : Int) : g = 1 ∨ g = 2 ∨ g = 3 ∨ (gen g = false ∧ (g = 1) = False ∧ (g = 2) = False ∧ (g = 3) = False) := by
  by_cases h1 : g = 1
  · exact .inl h1
  by_cases h2 : g = 2
  · exact .inr (.inl h2)
  by_cases h3 : g = 3
  · exact .inr (.inr (.inl h3))
  refine .inr (.inr (.inr ⟨?_, eq_false h1, eq_false h2, eq_false h3⟩))
  unfold gen
  by_cases h : 1 ≤ g
  · have : ¬ g ≤ 3 := by omega
    simp [this]
  · simp [h]
theorem s140 (g : Int) (H : Heap) : callL ft (.fn (.func 140) [] []) [int g] H = some (boolA (gen g), H) := by
  refine call_p (as' := [int g]) rfl rfl (by simp) ?_
  unfold c140 r140 gen
  by_cases h : 1 ≤ g
  · by_cases h2 : g ≤ 3
    · simp only [↓vp, vq0, vq1, vq2, vq3, vr0, vr1, vr2, vr3, vr4, vr5, vr6, vr7, vr8, vr9, vr10, vr11, vr12, vr13, vr14, vr15, vr16, vr17, vr18, vr19, vr20, vr21, vr22, vr23, vr24, vr25, vr26, vr27, vr28, vr29, vr30, vr31, vr32, vr33, vr34, opS, fpS, okP, pack, nAl, allocA, shId, leaves, fillA, fillR, splice, Nat.reduceLT, Nat.reduceEqDiff, Nat.reduceLeDiff, Nat.reduceAdd, Nat.reduceSub, Nat.reduceMul, Int.reduceBEq, Int.reduceBNe, Int.reduceLT, Int.reduceLE, Int.reduceEq, reduceIte, reduceCtorEq, da, int, boolA, RetP_go, resT, resC, resN, retV1, retV2, retV3, retV0, frzFZ, takeM, Option.some.injEq, h, h2, ge_iff_le, decide_true, Bool.and_true]
    · simp only [↓vp, vq0, vq1, vq2, vq3, vr0, vr1, vr2, vr3, vr4, vr5, vr6, vr7, vr8, vr9, vr10, vr11, vr12, vr13, vr14, vr15, vr16, vr17, vr18, vr19, vr20, vr21, vr22, vr23, vr24, vr25, vr26, vr27, vr28, vr29, vr30, vr31, vr32, vr33, vr34, opS, fpS, okP, pack, nAl, allocA, shId, leaves, fillA, fillR, splice, Nat.reduceLT, Nat.reduceEqDiff, Nat.reduceLeDiff, Nat.reduceAdd, Nat.reduceSub, Nat.reduceMul, Int.reduceBEq, Int.reduceBNe, Int.reduceLT, Int.reduceLE, Int.reduceEq, reduceIte, reduceCtorEq, da, int, boolA, RetP_go, resT, resC, resN, retV1, retV2, retV3, retV0, frzFZ, takeM, Option.some.injEq, h, h2, ge_iff_le, decide_true, decide_false, Bool.and_false, Bool.true_and]
  · simp only [↓vp, vq0, vq1, vq2, vq3, vr0, vr1, vr2, vr3, vr4, vr5, vr6, vr7, vr8, vr9, vr10, vr11, vr12, vr13, vr14, vr15, vr16, vr17, vr18, vr19, vr20, vr21, vr22, vr23, vr24, vr25, vr26, vr27, vr28, vr29, vr30, vr31, vr32, vr33, vr34, opS, fpS, okP, pack, nAl, allocA, shId, leaves, fillA, fillR, splice, Nat.reduceLT, Nat.reduceEqDiff, Nat.reduceLeDiff, Nat.reduceAdd, Nat.reduceSub, Nat.reduceMul, Int.reduceBEq, Int.reduceBNe, Int.reduceLT, Int.reduceLE, Int.reduceEq, reduceIte, reduceCtorEq, da, int, boolA, RetP_go, resT, resC, resN, retV1, retV2, retV3, retV0, frzFZ, takeM, Option.some.injEq, h, ge_iff_le, decide_false, Bool.false_and]
theorem k140 {g : Int} {K : Heap} {L : List Blk} {Q : AV → Heap → Prop} : KW ft (.fn (.func 140) [] []) [int g] (hx K L) Q ↔ Q (boolA (gen g)) (hx K L) := KW_of (s140 g _)
theorem s176 (g : Int) (H : Heap) : callL ft (.fn (.func 176) [] []) [int g] H = some (.agg [int (mxk g), int (mxv g), int (idw g), int (hdw g)], H) := by
  refine call_p (as' := [int g]) rfl rfl (by simp) ?_
  unfold c176 r176
  have k1 := fun g K L Q => @k140 g K L Q
  simp only [int] at k1
  have w0 : IntKind.i64.wrap 0 = 0 := rfl
  have w1 : IntKind.i64.wrap 1 = 1 := rfl
  have w2 : IntKind.i64.wrap 2 = 2 := rfl
  rcases g_cases g with rfl | rfl | rfl | ⟨h0, h1, h2, h3⟩
  · simp only [↓vp, vq0, vq1, vq2, vq3, vr0, vr1, vr2, vr3, vr4, vr5, vr6, vr7, vr8, vr9, vr10, vr11, vr12, vr13, vr14, vr15, vr16, vr17, vr18, vr19, vr20, vr21, vr22, vr23, vr24, vr25, vr26, vr27, vr28, vr29, vr30, vr31, vr32, vr33, vr34, opS, fpS, okP, pack, nAl, allocA, shId, leaves, fillA, fillR, splice, Nat.reduceLT, Nat.reduceEqDiff, Nat.reduceLeDiff, Nat.reduceAdd, Nat.reduceSub, Nat.reduceMul, Int.reduceBEq, Int.reduceBNe, Int.reduceLT, Int.reduceLE, Int.reduceEq, reduceIte, reduceCtorEq, da, int, boolA, RetP_go, resT, resC, resN, retV1, retV2, retV3, retV0, frzFZ, takeM, Option.some.injEq, k1, show gen 1 = true from rfl, w0, w1, w2, Int.reduceSub, Int.reduceToNat, Nat.reduceMul, List.drop_succ_cons, List.drop_zero, List.take_succ_cons, List.take_zero, List.length_cons, List.length_nil, List.cons_append, List.nil_append, List.append_nil, List.drop_nil, oneAll]
    rfl
  · simp only [↓vp, vq0, vq1, vq2, vq3, vr0, vr1, vr2, vr3, vr4, vr5, vr6, vr7, vr8, vr9, vr10, vr11, vr12, vr13, vr14, vr15, vr16, vr17, vr18, vr19, vr20, vr21, vr22, vr23, vr24, vr25, vr26, vr27, vr28, vr29, vr30, vr31, vr32, vr33, vr34, opS, fpS, okP, pack, nAl, allocA, shId, leaves, fillA, fillR, splice, Nat.reduceLT, Nat.reduceEqDiff, Nat.reduceLeDiff, Nat.reduceAdd, Nat.reduceSub, Nat.reduceMul, Int.reduceBEq, Int.reduceBNe, Int.reduceLT, Int.reduceLE, Int.reduceEq, reduceIte, reduceCtorEq, da, int, boolA, RetP_go, resT, resC, resN, retV1, retV2, retV3, retV0, frzFZ, takeM, Option.some.injEq, k1, show gen 2 = true from rfl, w0, w1, w2, Int.reduceSub, Int.reduceToNat, Nat.reduceMul, List.drop_succ_cons, List.drop_zero, List.take_succ_cons, List.take_zero, List.length_cons, List.length_nil, List.cons_append, List.nil_append, List.append_nil, List.drop_nil, oneAll]
    rfl
  · simp only [↓vp, vq0, vq1, vq2, vq3, vr0, vr1, vr2, vr3, vr4, vr5, vr6, vr7, vr8, vr9, vr10, vr11, vr12, vr13, vr14, vr15, vr16, vr17, vr18, vr19, vr20, vr21, vr22, vr23, vr24, vr25, vr26, vr27, vr28, vr29, vr30, vr31, vr32, vr33, vr34, opS, fpS, okP, pack, nAl, allocA, shId, leaves, fillA, fillR, splice, Nat.reduceLT, Nat.reduceEqDiff, Nat.reduceLeDiff, Nat.reduceAdd, Nat.reduceSub, Nat.reduceMul, Int.reduceBEq, Int.reduceBNe, Int.reduceLT, Int.reduceLE, Int.reduceEq, reduceIte, reduceCtorEq, da, int, boolA, RetP_go, resT, resC, resN, retV1, retV2, retV3, retV0, frzFZ, takeM, Option.some.injEq, k1, show gen 3 = true from rfl, w0, w1, w2, Int.reduceSub, Int.reduceToNat, Nat.reduceMul, List.drop_succ_cons, List.drop_zero, List.take_succ_cons, List.take_zero, List.length_cons, List.length_nil, List.cons_append, List.nil_append, List.append_nil, List.drop_nil, oneAll]
    rfl
  · simp only [↓vp, vq0, vq1, vq2, vq3, vr0, vr1, vr2, vr3, vr4, vr5, vr6, vr7, vr8, vr9, vr10, vr11, vr12, vr13, vr14, vr15, vr16, vr17, vr18, vr19, vr20, vr21, vr22, vr23, vr24, vr25, vr26, vr27, vr28, vr29, vr30, vr31, vr32, vr33, vr34, opS, fpS, okP, pack, nAl, allocA, shId, leaves, fillA, fillR, splice, Nat.reduceLT, Nat.reduceEqDiff, Nat.reduceLeDiff, Nat.reduceAdd, Nat.reduceSub, Nat.reduceMul, Int.reduceBEq, Int.reduceBNe, Int.reduceLT, Int.reduceLE, Int.reduceEq, reduceIte, reduceCtorEq, da, int, boolA, RetP_go, resT, resC, resN, retV1, retV2, retV3, retV0, frzFZ, takeM, Option.some.injEq, k1, h0, mxk, mxv, idw, hdw, tr, h1, h2, h3]
theorem k176 {g : Int} {K : Heap} {L : List Blk} {Q : AV → Heap → Prop} : KW ft (.fn (.func 176) [] []) [int g] (hx K L) Q ↔ Q (.agg [int (mxk g), int (mxv g), int (idw g), int (hdw g)]) (hx K L) := KW_of (s176 g _)
theorem s175 (g : Int) (H : Heap) : callL ft (.fn (.func 175) [] []) [int g] H = some (int (idw g), H) := by
  refine call_p (as' := [int g]) rfl rfl (by simp) ?_
  unfold c175 r175
  have k1 := fun g K L Q => @k176 g K L Q
  simp only [int] at k1
  simp only [↓vp, vq0, vq1, vq2, vq3, vr0, vr1, vr2, vr3, vr4, vr5, vr6, vr7, vr8, vr9, vr10, vr11, vr12, vr13, vr14, vr15, vr16, vr17, vr18, vr19, vr20, vr21, vr22, vr23, vr24, vr25, vr26, vr27, vr28, vr29, vr30, vr31, vr32, vr33, vr34, opS, fpS, okP, pack, nAl, allocA, shId, leaves, fillA, fillR, splice, Nat.reduceLT, Nat.reduceEqDiff, Nat.reduceLeDiff, Nat.reduceAdd, Nat.reduceSub, Nat.reduceMul, Int.reduceBEq, Int.reduceBNe, Int.reduceLT, Int.reduceLE, Int.reduceEq, reduceIte, reduceCtorEq, da, int, boolA, RetP_go, resT, resC, resN, retV1, retV2, retV3, retV0, frzFZ, takeM, Option.some.injEq, k1]
theorem k175 {g : Int} {K : Heap} {L : List Blk} {Q : AV → Heap → Prop} : KW ft (.fn (.func 175) [] []) [int g] (hx K L) Q ↔ Q (int (idw g)) (hx K L) := KW_of (s175 g _)
theorem s146 (g : Int) (H : Heap) : callL ft (.fn (.func 146) [] []) [int g] H = some (int (hdw g), H) := by
  refine call_p (as' := [int g]) rfl rfl (by simp) ?_
  unfold c146 r146
  have k1 := fun g K L Q => @k176 g K L Q
  simp only [int] at k1
  simp only [↓vp, vq0, vq1, vq2, vq3, vr0, vr1, vr2, vr3, vr4, vr5, vr6, vr7, vr8, vr9, vr10, vr11, vr12, vr13, vr14, vr15, vr16, vr17, vr18, vr19, vr20, vr21, vr22, vr23, vr24, vr25, vr26, vr27, vr28, vr29, vr30, vr31, vr32, vr33, vr34, opS, fpS, okP, pack, nAl, allocA, shId, leaves, fillA, fillR, splice, Nat.reduceLT, Nat.reduceEqDiff, Nat.reduceLeDiff, Nat.reduceAdd, Nat.reduceSub, Nat.reduceMul, Int.reduceBEq, Int.reduceBNe, Int.reduceLT, Int.reduceLE, Int.reduceEq, reduceIte, reduceCtorEq, da, int, boolA, RetP_go, resT, resC, resN, retV1, retV2, retV3, retV0, frzFZ, takeM, Option.some.injEq, k1]
theorem k146 {g : Int} {K : Heap} {L : List Blk} {Q : AV → Heap → Prop} : KW ft (.fn (.func 146) [] []) [int g] (hx K L) Q ↔ Q (int (hdw g)) (hx K L) := KW_of (s146 g _)
theorem s170 (g : Int) (H : Heap) : callL ft (.fn (.func 170) [] []) [int g] H = some (int (mxk g), H) := by
  refine call_p (as' := [int g]) rfl rfl (by simp) ?_
  unfold c170 r170
  have k1 := fun g K L Q => @k176 g K L Q
  simp only [int] at k1
  simp only [↓vp, vq0, vq1, vq2, vq3, vr0, vr1, vr2, vr3, vr4, vr5, vr6, vr7, vr8, vr9, vr10, vr11, vr12, vr13, vr14, vr15, vr16, vr17, vr18, vr19, vr20, vr21, vr22, vr23, vr24, vr25, vr26, vr27, vr28, vr29, vr30, vr31, vr32, vr33, vr34, opS, fpS, okP, pack, nAl, allocA, shId, leaves, fillA, fillR, splice, Nat.reduceLT, Nat.reduceEqDiff, Nat.reduceLeDiff, Nat.reduceAdd, Nat.reduceSub, Nat.reduceMul, Int.reduceBEq, Int.reduceBNe, Int.reduceLT, Int.reduceLE, Int.reduceEq, reduceIte, reduceCtorEq, da, int, boolA, RetP_go, resT, resC, resN, retV1, retV2, retV3, retV0, frzFZ, takeM, Option.some.injEq, k1]
theorem k170 {g : Int} {K : Heap} {L : List Blk} {Q : AV → Heap → Prop} : KW ft (.fn (.func 170) [] []) [int g] (hx K L) Q ↔ Q (int (mxk g)) (hx K L) := KW_of (s170 g _)
theorem s186 (g : Int) (H : Heap) : callL ft (.fn (.func 186) [] []) [int g] H = some (int (mxv g), H) := by
  refine call_p (as' := [int g]) rfl rfl (by simp) ?_
  unfold c186 r186
  have k1 := fun g K L Q => @k176 g K L Q
  simp only [int] at k1
  simp only [↓vp, vq0, vq1, vq2, vq3, vr0, vr1, vr2, vr3, vr4, vr5, vr6, vr7, vr8, vr9, vr10, vr11, vr12, vr13, vr14, vr15, vr16, vr17, vr18, vr19, vr20, vr21, vr22, vr23, vr24, vr25, vr26, vr27, vr28, vr29, vr30, vr31, vr32, vr33, vr34, opS, fpS, okP, pack, nAl, allocA, shId, leaves, fillA, fillR, splice, Nat.reduceLT, Nat.reduceEqDiff, Nat.reduceLeDiff, Nat.reduceAdd, Nat.reduceSub, Nat.reduceMul, Int.reduceBEq, Int.reduceBNe, Int.reduceLT, Int.reduceLE, Int.reduceEq, reduceIte, reduceCtorEq, da, int, boolA, RetP_go, resT, resC, resN, retV1, retV2, retV3, retV0, frzFZ, takeM, Option.some.injEq, k1]
theorem k186 {g : Int} {K : Heap} {L : List Blk} {Q : AV → Heap → Prop} : KW ft (.fn (.func 186) [] []) [int g] (hx K L) Q ↔ Q (int (mxv g)) (hx K L) := KW_of (s186 g _)
theorem s90 (g : Int) (H : Heap) : callL ft (.fn (.func 90) [] []) [int g] H = some (int (capG g), H) := by
  refine call_p (as' := [int g]) rfl rfl (by simp) ?_
  unfold c90 r90
  have k1 := fun g K L Q => @k140 g K L Q
  have k2 := fun g K L Q => @k146 g K L Q
  simp only [int] at k1 k2
  rcases g_cases g with rfl | rfl | rfl | ⟨h0, h1, h2, h3⟩
  · simp only [↓vp, vq0, vq1, vq2, vq3, vr0, vr1, vr2, vr3, vr4, vr5, vr6, vr7, vr8, vr9, vr10, vr11, vr12, vr13, vr14, vr15, vr16, vr17, vr18, vr19, vr20, vr21, vr22, vr23, vr24, vr25, vr26, vr27, vr28, vr29, vr30, vr31, vr32, vr33, vr34, opS, fpS, okP, pack, nAl, allocA, shId, leaves, fillA, fillR, splice, Nat.reduceLT, Nat.reduceEqDiff, Nat.reduceLeDiff, Nat.reduceAdd, Nat.reduceSub, Nat.reduceMul, Int.reduceBEq, Int.reduceBNe, Int.reduceLT, Int.reduceLE, Int.reduceEq, reduceIte, reduceCtorEq, da, int, boolA, RetP_go, resT, resC, resN, retV1, retV2, retV3, retV0, frzFZ, takeM, Option.some.injEq, k1, k2, show gen 1 = true from rfl]
    rfl
  · simp only [↓vp, vq0, vq1, vq2, vq3, vr0, vr1, vr2, vr3, vr4, vr5, vr6, vr7, vr8, vr9, vr10, vr11, vr12, vr13, vr14, vr15, vr16, vr17, vr18, vr19, vr20, vr21, vr22, vr23, vr24, vr25, vr26, vr27, vr28, vr29, vr30, vr31, vr32, vr33, vr34, opS, fpS, okP, pack, nAl, allocA, shId, leaves, fillA, fillR, splice, Nat.reduceLT, Nat.reduceEqDiff, Nat.reduceLeDiff, Nat.reduceAdd, Nat.reduceSub, Nat.reduceMul, Int.reduceBEq, Int.reduceBNe, Int.reduceLT, Int.reduceLE, Int.reduceEq, reduceIte, reduceCtorEq, da, int, boolA, RetP_go, resT, resC, resN, retV1, retV2, retV3, retV0, frzFZ, takeM, Option.some.injEq, k1, k2, show gen 2 = true from rfl]
    rfl
  · simp only [↓vp, vq0, vq1, vq2, vq3, vr0, vr1, vr2, vr3, vr4, vr5, vr6, vr7, vr8, vr9, vr10, vr11, vr12, vr13, vr14, vr15, vr16, vr17, vr18, vr19, vr20, vr21, vr22, vr23, vr24, vr25, vr26, vr27, vr28, vr29, vr30, vr31, vr32, vr33, vr34, opS, fpS, okP, pack, nAl, allocA, shId, leaves, fillA, fillR, splice, Nat.reduceLT, Nat.reduceEqDiff, Nat.reduceLeDiff, Nat.reduceAdd, Nat.reduceSub, Nat.reduceMul, Int.reduceBEq, Int.reduceBNe, Int.reduceLT, Int.reduceLE, Int.reduceEq, reduceIte, reduceCtorEq, da, int, boolA, RetP_go, resT, resC, resN, retV1, retV2, retV3, retV0, frzFZ, takeM, Option.some.injEq, k1, k2, show gen 3 = true from rfl]
    rfl
  · simp only [↓vp, vq0, vq1, vq2, vq3, vr0, vr1, vr2, vr3, vr4, vr5, vr6, vr7, vr8, vr9, vr10, vr11, vr12, vr13, vr14, vr15, vr16, vr17, vr18, vr19, vr20, vr21, vr22, vr23, vr24, vr25, vr26, vr27, vr28, vr29, vr30, vr31, vr32, vr33, vr34, opS, fpS, okP, pack, nAl, allocA, shId, leaves, fillA, fillR, splice, Nat.reduceLT, Nat.reduceEqDiff, Nat.reduceLeDiff, Nat.reduceAdd, Nat.reduceSub, Nat.reduceMul, Int.reduceBEq, Int.reduceBNe, Int.reduceLT, Int.reduceLE, Int.reduceEq, reduceIte, reduceCtorEq, da, int, boolA, RetP_go, resT, resC, resN, retV1, retV2, retV3, retV0, frzFZ, takeM, Option.some.injEq, k1, h0, capG, tr, h1, h2, h3]
theorem k90 {g : Int} {K : Heap} {L : List Blk} {Q : AV → Heap → Prop} : KW ft (.fn (.func 90) [] []) [int g] (hx K L) Q ↔ Q (int (capG g)) (hx K L) := KW_of (s90 g _)
def farM (x : ItemM) : Bool := x.ref != 0 || decide (32 < x.value.length)
theorem s174 (x : ItemM) (H : Heap) : callL ft (.fn (.func 174) [] []) [.agg (itemC x)] H = some (boolA (farM x), H) := by
  refine call_p (as' := [.agg (itemC x)]) rfl rfl (by simp) ?_
  unfold c174 r174 farM
  cases h : x.ref != 0 with
  | true => simp only [↓vp, vq0, vq1, vq2, vq3, vr0, vr1, vr2, vr3, vr4, vr5, vr6, vr7, vr8, vr9, vr10, vr11, vr12, vr13, vr14, vr15, vr16, vr17, vr18, vr19, vr20, vr21, vr22, vr23, vr24, vr25, vr26, vr27, vr28, vr29, vr30, vr31, vr32, vr33, vr34, opS, fpS, okP, pack, nAl, allocA, shId, leaves, fillA, fillR, splice, Nat.reduceLT, Nat.reduceEqDiff, Nat.reduceLeDiff, Nat.reduceAdd, Nat.reduceSub, Nat.reduceMul, Int.reduceBEq, Int.reduceBNe, Int.reduceLT, Int.reduceLE, Int.reduceEq, reduceIte, reduceCtorEq, da, int, boolA, RetP_go, resT, resC, resN, retV1, retV2, retV3, retV0, frzFZ, takeM, Option.some.injEq, itemC, h, Bool.true_or]
  | false =>
    have e : ((x.value.length : Int) > 32) = (32 < x.value.length) := by simp only [gt_iff_lt, eq_iff_iff]; omega
    simp only [↓vp, vq0, vq1, vq2, vq3, vr0, vr1, vr2, vr3, vr4, vr5, vr6, vr7, vr8, vr9, vr10, vr11, vr12, vr13, vr14, vr15, vr16, vr17, vr18, vr19, vr20, vr21, vr22, vr23, vr24, vr25, vr26, vr27, vr28, vr29, vr30, vr31, vr32, vr33, vr34, opS, fpS, okP, pack, nAl, allocA, shId, leaves, fillA, fillR, splice, Nat.reduceLT, Nat.reduceEqDiff, Nat.reduceLeDiff, Nat.reduceAdd, Nat.reduceSub, Nat.reduceMul, Int.reduceBEq, Int.reduceBNe, Int.reduceLT, Int.reduceLE, Int.reduceEq, reduceIte, reduceCtorEq, da, int, boolA, RetP_go, resT, resC, resN, retV1, retV2, retV3, retV0, frzFZ, takeM, Option.some.injEq, itemC, h, Bool.false_or, e]
theorem k174 {x : ItemM} {K : Heap} {L : List Blk} {Q : AV → Heap → Prop} : KW ft (.fn (.func 174) [] []) [.agg (itemC x)] (hx K L) Q ↔ Q (boolA (farM x)) (hx K L) := KW_of (s174 x _)
theorem s179 (x : ItemM) (H : Heap) : callL ft (.fn (.func 179) [] []) [.agg (itemC x)] H = some (boolA (farM x), H) := by
  refine call_p (as' := [.agg (itemC x)]) rfl rfl (by simp) ?_
  unfold c179 r179 farM
  cases h : x.ref != 0 with
  | true => simp only [↓vp, vq0, vq1, vq2, vq3, vr0, vr1, vr2, vr3, vr4, vr5, vr6, vr7, vr8, vr9, vr10, vr11, vr12, vr13, vr14, vr15, vr16, vr17, vr18, vr19, vr20, vr21, vr22, vr23, vr24, vr25, vr26, vr27, vr28, vr29, vr30, vr31, vr32, vr33, vr34, opS, fpS, okP, pack, nAl, allocA, shId, leaves, fillA, fillR, splice, Nat.reduceLT, Nat.reduceEqDiff, Nat.reduceLeDiff, Nat.reduceAdd, Nat.reduceSub, Nat.reduceMul, Int.reduceBEq, Int.reduceBNe, Int.reduceLT, Int.reduceLE, Int.reduceEq, reduceIte, reduceCtorEq, da, int, boolA, RetP_go, resT, resC, resN, retV1, retV2, retV3, retV0, frzFZ, takeM, Option.some.injEq, itemC, h, Bool.true_or]
  | false =>
    have e : ((x.value.length : Int) ≥ 33) = (32 < x.value.length) := by simp only [ge_iff_le, eq_iff_iff]; omega
    simp only [↓vp, vq0, vq1, vq2, vq3, vr0, vr1, vr2, vr3, vr4, vr5, vr6, vr7, vr8, vr9, vr10, vr11, vr12, vr13, vr14, vr15, vr16, vr17, vr18, vr19, vr20, vr21, vr22, vr23, vr24, vr25, vr26, vr27, vr28, vr29, vr30, vr31, vr32, vr33, vr34, opS, fpS, okP, pack, nAl, allocA, shId, leaves, fillA, fillR, splice, Nat.reduceLT, Nat.reduceEqDiff, Nat.reduceLeDiff, Nat.reduceAdd, Nat.reduceSub, Nat.reduceMul, Int.reduceBEq, Int.reduceBNe, Int.reduceLT, Int.reduceLE, Int.reduceEq, reduceIte, reduceCtorEq, da, int, boolA, RetP_go, resT, resC, resN, retV1, retV2, retV3, retV0, frzFZ, takeM, Option.some.injEq, itemC, h, Bool.false_or, e]
theorem k179 {x : ItemM} {K : Heap} {L : List Blk} {Q : AV → Heap → Prop} : KW ft (.fn (.func 179) [] []) [.agg (itemC x)] (hx K L) Q ↔ Q (boolA (farM x)) (hx K L) := KW_of (s179 x _)
theorem s149 (g a b c : Int) (H : Heap) : callL ft (.fn (.func 149) [] []) [int g, int a, int b, int c] H = some (int (tr a b c g), H) := by
  refine call_p (as' := [int g, int a, int b, int c]) rfl rfl (by simp) ?_
  unfold c149 r149
  rcases g_cases g with rfl | rfl | rfl | ⟨h0, h1, h2, h3⟩
  · simp only [↓vp, vq0, vq1, vq2, vq3, vr0, vr1, vr2, vr3, vr4, vr5, vr6, vr7, vr8, vr9, vr10, vr11, vr12, vr13, vr14, vr15, vr16, vr17, vr18, vr19, vr20, vr21, vr22, vr23, vr24, vr25, vr26, vr27, vr28, vr29, vr30, vr31, vr32, vr33, vr34, opS, fpS, okP, pack, nAl, allocA, shId, leaves, fillA, fillR, splice, Nat.reduceLT, Nat.reduceEqDiff, Nat.reduceLeDiff, Nat.reduceAdd, Nat.reduceSub, Nat.reduceMul, Int.reduceBEq, Int.reduceBNe, Int.reduceLT, Int.reduceLE, Int.reduceEq, reduceIte, reduceCtorEq, da, int, boolA, RetP_go, resT, resC, resN, retV1, retV2, retV3, retV0, frzFZ, takeM, Option.some.injEq]
    rfl
  · simp only [↓vp, vq0, vq1, vq2, vq3, vr0, vr1, vr2, vr3, vr4, vr5, vr6, vr7, vr8, vr9, vr10, vr11, vr12, vr13, vr14, vr15, vr16, vr17, vr18, vr19, vr20, vr21, vr22, vr23, vr24, vr25, vr26, vr27, vr28, vr29, vr30, vr31, vr32, vr33, vr34, opS, fpS, okP, pack, nAl, allocA, shId, leaves, fillA, fillR, splice, Nat.reduceLT, Nat.reduceEqDiff, Nat.reduceLeDiff, Nat.reduceAdd, Nat.reduceSub, Nat.reduceMul, Int.reduceBEq, Int.reduceBNe, Int.reduceLT, Int.reduceLE, Int.reduceEq, reduceIte, reduceCtorEq, da, int, boolA, RetP_go, resT, resC, resN, retV1, retV2, retV3, retV0, frzFZ, takeM, Option.some.injEq]
    rfl
  · simp only [↓vp, vq0, vq1, vq2, vq3, vr0, vr1, vr2, vr3, vr4, vr5, vr6, vr7, vr8, vr9, vr10, vr11, vr12, vr13, vr14, vr15, vr16, vr17, vr18, vr19, vr20, vr21, vr22, vr23, vr24, vr25, vr26, vr27, vr28, vr29, vr30, vr31, vr32, vr33, vr34, opS, fpS, okP, pack, nAl, allocA, shId, leaves, fillA, fillR, splice, Nat.reduceLT, Nat.reduceEqDiff, Nat.reduceLeDiff, Nat.reduceAdd, Nat.reduceSub, Nat.reduceMul, Int.reduceBEq, Int.reduceBNe, Int.reduceLT, Int.reduceLE, Int.reduceEq, reduceIte, reduceCtorEq, da, int, boolA, RetP_go, resT, resC, resN, retV1, retV2, retV3, retV0, frzFZ, takeM, Option.some.injEq]
    rfl
  · have e1 : (g == 1) = false := by simp [h1]
    have e2 : (g == 2) = false := by simp [h2]
    have e3 : (g == 3) = false := by simp [h3]
    simp only [↓vp, vq0, vq1, vq2, vq3, vr0, vr1, vr2, vr3, vr4, vr5, vr6, vr7, vr8, vr9, vr10, vr11, vr12, vr13, vr14, vr15, vr16, vr17, vr18, vr19, vr20, vr21, vr22, vr23, vr24, vr25, vr26, vr27, vr28, vr29, vr30, vr31, vr32, vr33, vr34, opS, fpS, okP, pack, nAl, allocA, shId, leaves, fillA, fillR, splice, Nat.reduceLT, Nat.reduceEqDiff, Nat.reduceLeDiff, Nat.reduceAdd, Nat.reduceSub, Nat.reduceMul, Int.reduceBEq, Int.reduceBNe, Int.reduceLT, Int.reduceLE, Int.reduceEq, reduceIte, reduceCtorEq, da, int, boolA, RetP_go, resT, resC, resN, retV1, retV2, retV3, retV0, frzFZ, takeM, Option.some.injEq, e1, e2, e3, tr, h1, h2, h3]
theorem k149 {g a b c : Int} {K : Heap} {L : List Blk} {Q : AV → Heap → Prop} : KW ft (.fn (.func 149) [] []) [int g, int a, int b, int c] (hx K L) Q ↔ Q (int (tr a b c g)) (hx K L) := KW_of (s149 g a b c _)
theorem s157 (g : Int) (H : Heap) : callL ft (.fn (.func 157) [] []) [int g] H = some (int (idw g), H) := by
  refine call_p (as' := [int g]) rfl rfl (by simp) ?_
  unfold c157 r157
  have k1 := fun g a b c K L Q => @k149 g a b c K L Q
  simp only [int] at k1
  simp only [↓vp, vq0, vq1, vq2, vq3, vr0, vr1, vr2, vr3, vr4, vr5, vr6, vr7, vr8, vr9, vr10, vr11, vr12, vr13, vr14, vr15, vr16, vr17, vr18, vr19, vr20, vr21, vr22, vr23, vr24, vr25, vr26, vr27, vr28, vr29, vr30, vr31, vr32, vr33, vr34, opS, fpS, okP, pack, nAl, allocA, shId, leaves, fillA, fillR, splice, Nat.reduceLT, Nat.reduceEqDiff, Nat.reduceLeDiff, Nat.reduceAdd, Nat.reduceSub, Nat.reduceMul, Int.reduceBEq, Int.reduceBNe, Int.reduceLT, Int.reduceLE, Int.reduceEq, reduceIte, reduceCtorEq, da, int, boolA, RetP_go, resT, resC, resN, retV1, retV2, retV3, retV0, frzFZ, takeM, Option.some.injEq, k1]
theorem k157 {g : Int} {K : Heap} {L : List Blk} {Q : AV → Heap → Prop} : KW ft (.fn (.func 157) [] []) [int g] (hx K L) Q ↔ Q (int (idw g)) (hx K L) := KW_of (s157 g _)
theorem s145 (g : Int) (H : Heap) : callL ft (.fn (.func 145) [] []) [int g] H = some (int (capG g), H) := by
  refine call_p (as' := [int g]) rfl rfl (by simp) ?_
  unfold c145 r145
  have k1 := fun g a b c K L Q => @k149 g a b c K L Q
  simp only [int] at k1
  simp only [↓vp, vq0, vq1, vq2, vq3, vr0, vr1, vr2, vr3, vr4, vr5, vr6, vr7, vr8, vr9, vr10, vr11, vr12, vr13, vr14, vr15, vr16, vr17, vr18, vr19, vr20, vr21, vr22, vr23, vr24, vr25, vr26, vr27, vr28, vr29, vr30, vr31, vr32, vr33, vr34, opS, fpS, okP, pack, nAl, allocA, shId, leaves, fillA, fillR, splice, Nat.reduceLT, Nat.reduceEqDiff, Nat.reduceLeDiff, Nat.reduceAdd, Nat.reduceSub, Nat.reduceMul, Int.reduceBEq, Int.reduceBNe, Int.reduceLT, Int.reduceLE, Int.reduceEq, reduceIte, reduceCtorEq, da, int, boolA, RetP_go, resT, resC, resN, retV1, retV2, retV3, retV0, frzFZ, takeM, Option.some.injEq, k1]
theorem k145 {g : Int} {K : Heap} {L : List Blk} {Q : AV → Heap → Prop} : KW ft (.fn (.func 145) [] []) [int g] (hx K L) Q ↔ Q (int (capG g)) (hx K L) := KW_of (s145 g _)
end Go.VI

set_option linter.unusedVariables false
set_option linter.unusedSimpArgs false
set_option maxRecDepth 100000
namespace Go.VI
attribute [local congr] AW_congr OW_congr DW_congr NW_congr VW_congr GW_congr PW_congr KW_congr ite_congr' GV_congr CV_congr
def roomI (g : Int) (x : ItemM) : Int := if gen g then (if farM x then 4 + x.key.length + idw g else 4 + x.key.length + x.value.length) else 0
def roomK (g : Int) (key : Bytes) : Int := if gen g then 1 + key.length + idw g else 0
theorem tr_bound {a b c g m : Int} (h : 0 ≤ a ∧ a ≤ m) (h2 : 0 ≤ b ∧ b ≤ m) (h3 : 0 ≤ c ∧ c ≤ m) : 0 ≤ tr a b c g ∧ tr a b c g ≤ m := by
  unfold tr
  split
  · exact h
  split
  · exact h2
  split
  · exact h3
  exact ⟨Int.le_refl 0, by omega⟩
theorem idw_bound (g : Int) : 0 ≤ idw g ∧ idw g ≤ 8 := tr_bound (by decide) (by decide) (by decide)
theorem s143 (g : Int) (x : ItemM) (hx_ : okIt x) (H : Heap) : callL ft (.fn (.func 143) [] []) [int g, .agg (itemC x)] H = some (int (roomI g x), H) := by
  refine call_p (as' := [int g, .agg (itemC x)]) rfl rfl (by simp) ?_
  unfold c143 r143 roomI
  have k1 := fun g K L Q => @k140 g K L Q
  have k2 := fun K L Q => @k174 x K L Q
  have k3 := fun g K L Q => @k175 g K L Q
  have b1 := hx_.k.n
  have b2 := hx_.v.n
  have b3 := idw_bound g
  unfold MX at b1 b2
  have w1 : IntKind.i64.wrap (4 + (x.key.length : Int)) = 4 + x.key.length := wrap_i64 (by omega)
  have w2 : IntKind.i64.wrap (4 + (x.key.length : Int) + x.value.length) = 4 + x.key.length + x.value.length := wrap_i64 (by omega)
  have w3 : IntKind.i64.wrap (4 + (x.key.length : Int) + idw g) = 4 + x.key.length + idw g := wrap_i64 (by omega)
  simp only [int, itemC] at k1 k2 k3
  cases h : gen g with
  | false => simp only [↓vp, vq0, vq1, vq2, vq3, vr0, vr1, vr2, vr3, vr4, vr5, vr6, vr7, vr8, vr9, vr10, vr11, vr12, vr13, vr14, vr15, vr16, vr17, vr18, vr19, vr20, vr21, vr22, vr23, vr24, vr25, vr26, vr27, vr28, vr29, vr30, vr31, vr32, vr33, vr34, opS, fpS, okP, pack, nAl, allocA, shId, leaves, fillA, fillR, splice, Nat.reduceLT, Nat.reduceEqDiff, Nat.reduceLeDiff, Nat.reduceAdd, Nat.reduceSub, Nat.reduceMul, Int.reduceBEq, Int.reduceBNe, Int.reduceLT, Int.reduceLE, Int.reduceEq, reduceIte, reduceCtorEq, da, int, boolA, RetP_go, resT, resC, resN, retV1, retV2, retV3, retV0, frzFZ, takeM, Option.some.injEq, itemC, k1, h]
  | true =>
    cases h2 : farM x with
    | true =>
      simp only [↓vp, vq0, vq1, vq2, vq3, vr0, vr1, vr2, vr3, vr4, vr5, vr6, vr7, vr8, vr9, vr10, vr11, vr12, vr13, vr14, vr15, vr16, vr17, vr18, vr19, vr20, vr21, vr22, vr23, vr24, vr25, vr26, vr27, vr28, vr29, vr30, vr31, vr32, vr33, vr34, opS, fpS, okP, pack, nAl, allocA, shId, leaves, fillA, fillR, splice, Nat.reduceLT, Nat.reduceEqDiff, Nat.reduceLeDiff, Nat.reduceAdd, Nat.reduceSub, Nat.reduceMul, Int.reduceBEq, Int.reduceBNe, Int.reduceLT, Int.reduceLE, Int.reduceEq, reduceIte, reduceCtorEq, da, int, boolA, RetP_go, resT, resC, resN, retV1, retV2, retV3, retV0, frzFZ, takeM, Option.some.injEq, itemC, k1, k2, k3, h, h2, w1, w3]
      rfl
    | false => simp only [↓vp, vq0, vq1, vq2, vq3, vr0, vr1, vr2, vr3, vr4, vr5, vr6, vr7, vr8, vr9, vr10, vr11, vr12, vr13, vr14, vr15, vr16, vr17, vr18, vr19, vr20, vr21, vr22, vr23, vr24, vr25, vr26, vr27, vr28, vr29, vr30, vr31, vr32, vr33, vr34, opS, fpS, okP, pack, nAl, allocA, shId, leaves, fillA, fillR, splice, Nat.reduceLT, Nat.reduceEqDiff, Nat.reduceLeDiff, Nat.reduceAdd, Nat.reduceSub, Nat.reduceMul, Int.reduceBEq, Int.reduceBNe, Int.reduceLT, Int.reduceLE, Int.reduceEq, reduceIte, reduceCtorEq, da, int, boolA, RetP_go, resT, resC, resN, retV1, retV2, retV3, retV0, frzFZ, takeM, Option.some.injEq, itemC, k1, k2, h, h2, w1, w2]
theorem k143 {g : Int} {x : ItemM} (hx_ : okIt x) {K : Heap} {L : List Blk} {Q : AV → Heap → Prop} : KW ft (.fn (.func 143) [] []) [int g, .agg (itemC x)] (hx K L) Q ↔ Q (int (roomI g x)) (hx K L) := KW_of (s143 g x hx_ _)
theorem s144 (g : Int) (key : Bytes) (hk : okB key) (H : Heap) : callL ft (.fn (.func 144) [] []) [int g, encB key] H = some (int (roomK g key), H) := by
  refine call_p (as' := [int g, encB key]) rfl rfl (by simp) ?_
  unfold c144 r144 roomK
  have k1 := fun g K L Q => @k140 g K L Q
  have k3 := fun g K L Q => @k175 g K L Q
  have b1 := hk.n
  have b3 := idw_bound g
  unfold MX at b1
  have w1 : IntKind.i64.wrap (1 + (key.length : Int)) = 1 + key.length := wrap_i64 (by omega)
  have w3 : IntKind.i64.wrap (1 + (key.length : Int) + idw g) = 1 + key.length + idw g := wrap_i64 (by omega)
  simp only [int] at k1 k3
  cases h : gen g with
  | false => simp only [↓vp, vq0, vq1, vq2, vq3, vr0, vr1, vr2, vr3, vr4, vr5, vr6, vr7, vr8, vr9, vr10, vr11, vr12, vr13, vr14, vr15, vr16, vr17, vr18, vr19, vr20, vr21, vr22, vr23, vr24, vr25, vr26, vr27, vr28, vr29, vr30, vr31, vr32, vr33, vr34, opS, fpS, okP, pack, nAl, allocA, shId, leaves, fillA, fillR, splice, Nat.reduceLT, Nat.reduceEqDiff, Nat.reduceLeDiff, Nat.reduceAdd, Nat.reduceSub, Nat.reduceMul, Int.reduceBEq, Int.reduceBNe, Int.reduceLT, Int.reduceLE, Int.reduceEq, reduceIte, reduceCtorEq, da, int, boolA, RetP_go, resT, resC, resN, retV1, retV2, retV3, retV0, frzFZ, takeM, Option.some.injEq, k1, h]
  | true => simp only [↓vp, vq0, vq1, vq2, vq3, vr0, vr1, vr2, vr3, vr4, vr5, vr6, vr7, vr8, vr9, vr10, vr11, vr12, vr13, vr14, vr15, vr16, vr17, vr18, vr19, vr20, vr21, vr22, vr23, vr24, vr25, vr26, vr27, vr28, vr29, vr30, vr31, vr32, vr33, vr34, opS, fpS, okP, pack, nAl, allocA, shId, leaves, fillA, fillR, splice, Nat.reduceLT, Nat.reduceEqDiff, Nat.reduceLeDiff, Nat.reduceAdd, Nat.reduceSub, Nat.reduceMul, Int.reduceBEq, Int.reduceBNe, Int.reduceLT, Int.reduceLE, Int.reduceEq, reduceIte, reduceCtorEq, da, int, boolA, RetP_go, resT, resC, resN, retV1, retV2, retV3, retV0, frzFZ, takeM, Option.some.injEq, k1, k3, h, w1, w3]
theorem k144 {g : Int} {key : Bytes} (hk : okB key) {K : Heap} {L : List Blk} {Q : AV → Heap → Prop} : KW ft (.fn (.func 144) [] []) [int g, encB key] (hx K L) Q ↔ Q (int (roomK g key)) (hx K L) := KW_of (s144 g key hk _)
theorem gen_iff (g : Int) : (g < 1 ∨ 3 < g) ↔ gen g = false := by
  unfold gen
  simp only [Bool.and_eq_false_iff, decide_eq_false_iff_not]
  omega
theorem s156 (g : Int) (x : ItemM) (hx_ : okIt x) (H : Heap) : callL ft (.fn (.func 156) [] []) [int g, .agg (itemC x)] H = some (int (roomI g x), H) := by
  refine call_p (as' := [int g, .agg (itemC x)]) rfl rfl (by simp) ?_
  unfold c156 r156
  have k2 := fun K L Q => @k179 x K L Q
  have k3 := fun g K L Q => @k157 g K L Q
  have b1 := hx_.k.n
  have b2 := hx_.v.n
  have b3 := idw_bound g
  unfold MX at b1 b2
  have w1 : IntKind.i64.wrap ((x.value.length : Int) + x.key.length) = x.value.length + x.key.length := wrap_i64 (by omega)
  have w2 : IntKind.i64.wrap ((x.value.length : Int) + x.key.length + 4) = 4 + x.key.length + x.value.length := by rw [wrap_i64 (by omega)]; omega
  have w3 : IntKind.i64.wrap (idw g + (x.key.length : Int)) = idw g + x.key.length := wrap_i64 (by omega)
  have w4 : IntKind.i64.wrap (idw g + (x.key.length : Int) + 4) = 4 + x.key.length + idw g := by rw [wrap_i64 (by omega)]; omega
  simp only [int, itemC] at k2 k3
  by_cases g1 : g < 1
  · have h := (gen_iff g).1 (.inl g1)
    simp only [↓vp, vq0, vq1, vq2, vq3, vr0, vr1, vr2, vr3, vr4, vr5, vr6, vr7, vr8, vr9, vr10, vr11, vr12, vr13, vr14, vr15, vr16, vr17, vr18, vr19, vr20, vr21, vr22, vr23, vr24, vr25, vr26, vr27, vr28, vr29, vr30, vr31, vr32, vr33, vr34, opS, fpS, okP, pack, nAl, allocA, shId, leaves, fillA, fillR, splice, Nat.reduceLT, Nat.reduceEqDiff, Nat.reduceLeDiff, Nat.reduceAdd, Nat.reduceSub, Nat.reduceMul, Int.reduceBEq, Int.reduceBNe, Int.reduceLT, Int.reduceLE, Int.reduceEq, reduceIte, reduceCtorEq, da, int, boolA, RetP_go, resT, resC, resN, retV1, retV2, retV3, retV0, frzFZ, takeM, Option.some.injEq, itemC, g1, roomI, h]
  by_cases g2 : g > 3
  · have h := (gen_iff g).1 (.inr g2)
    simp only [↓vp, vq0, vq1, vq2, vq3, vr0, vr1, vr2, vr3, vr4, vr5, vr6, vr7, vr8, vr9, vr10, vr11, vr12, vr13, vr14, vr15, vr16, vr17, vr18, vr19, vr20, vr21, vr22, vr23, vr24, vr25, vr26, vr27, vr28, vr29, vr30, vr31, vr32, vr33, vr34, opS, fpS, okP, pack, nAl, allocA, shId, leaves, fillA, fillR, splice, Nat.reduceLT, Nat.reduceEqDiff, Nat.reduceLeDiff, Nat.reduceAdd, Nat.reduceSub, Nat.reduceMul, Int.reduceBEq, Int.reduceBNe, Int.reduceLT, Int.reduceLE, Int.reduceEq, reduceIte, reduceCtorEq, da, int, boolA, RetP_go, resT, resC, resN, retV1, retV2, retV3, retV0, frzFZ, takeM, Option.some.injEq, itemC, g1, g2, roomI, h]
  have h : gen g = true := by
    cases e : gen g with
    | true => rfl
    | false => exact absurd ((gen_iff g).2 e) (by omega)
  cases h2 : farM x with
  | true => simp only [↓vp, vq0, vq1, vq2, vq3, vr0, vr1, vr2, vr3, vr4, vr5, vr6, vr7, vr8, vr9, vr10, vr11, vr12, vr13, vr14, vr15, vr16, vr17, vr18, vr19, vr20, vr21, vr22, vr23, vr24, vr25, vr26, vr27, vr28, vr29, vr30, vr31, vr32, vr33, vr34, opS, fpS, okP, pack, nAl, allocA, shId, leaves, fillA, fillR, splice, Nat.reduceLT, Nat.reduceEqDiff, Nat.reduceLeDiff, Nat.reduceAdd, Nat.reduceSub, Nat.reduceMul, Int.reduceBEq, Int.reduceBNe, Int.reduceLT, Int.reduceLE, Int.reduceEq, reduceIte, reduceCtorEq, da, int, boolA, RetP_go, resT, resC, resN, retV1, retV2, retV3, retV0, frzFZ, takeM, Option.some.injEq, itemC, g1, g2, k2, k3, roomI, h, h2, w3, w4]
  | false => simp only [↓vp, vq0, vq1, vq2, vq3, vr0, vr1, vr2, vr3, vr4, vr5, vr6, vr7, vr8, vr9, vr10, vr11, vr12, vr13, vr14, vr15, vr16, vr17, vr18, vr19, vr20, vr21, vr22, vr23, vr24, vr25, vr26, vr27, vr28, vr29, vr30, vr31, vr32, vr33, vr34, opS, fpS, okP, pack, nAl, allocA, shId, leaves, fillA, fillR, splice, Nat.reduceLT, Nat.reduceEqDiff, Nat.reduceLeDiff, Nat.reduceAdd, Nat.reduceSub, Nat.reduceMul, Int.reduceBEq, Int.reduceBNe, Int.reduceLT, Int.reduceLE, Int.reduceEq, reduceIte, reduceCtorEq, da, int, boolA, RetP_go, resT, resC, resN, retV1, retV2, retV3, retV0, frzFZ, takeM, Option.some.injEq, itemC, g1, g2, k2, k3, roomI, h, h2, w1, w2]
theorem k156 {g : Int} {x : ItemM} (hx_ : okIt x) {K : Heap} {L : List Blk} {Q : AV → Heap → Prop} : KW ft (.fn (.func 156) [] []) [int g, .agg (itemC x)] (hx K L) Q ↔ Q (int (roomI g x)) (hx K L) := KW_of (s156 g x hx_ _)
def longM (x : ItemM) : Int := if x.ref != 0 then x.size else x.value.length
theorem s185 (x : ItemM) (H : Heap) : callL ft (.fn (.func 185) [] []) [.agg (itemC x)] H = some (int (longM x), H) := by
  refine call_p (as' := [.agg (itemC x)]) rfl rfl (by simp) ?_
  unfold c185 r185 longM
  cases h : x.ref != 0 with
  | true => simp only [↓vp, vq0, vq1, vq2, vq3, vr0, vr1, vr2, vr3, vr4, vr5, vr6, vr7, vr8, vr9, vr10, vr11, vr12, vr13, vr14, vr15, vr16, vr17, vr18, vr19, vr20, vr21, vr22, vr23, vr24, vr25, vr26, vr27, vr28, vr29, vr30, vr31, vr32, vr33, vr34, opS, fpS, okP, pack, nAl, allocA, shId, leaves, fillA, fillR, splice, Nat.reduceLT, Nat.reduceEqDiff, Nat.reduceLeDiff, Nat.reduceAdd, Nat.reduceSub, Nat.reduceMul, Int.reduceBEq, Int.reduceBNe, Int.reduceLT, Int.reduceLE, Int.reduceEq, reduceIte, reduceCtorEq, da, int, boolA, RetP_go, resT, resC, resN, retV1, retV2, retV3, retV0, frzFZ, takeM, Option.some.injEq, itemC, h]
  | false => simp only [↓vp, vq0, vq1, vq2, vq3, vr0, vr1, vr2, vr3, vr4, vr5, vr6, vr7, vr8, vr9, vr10, vr11, vr12, vr13, vr14, vr15, vr16, vr17, vr18, vr19, vr20, vr21, vr22, vr23, vr24, vr25, vr26, vr27, vr28, vr29, vr30, vr31, vr32, vr33, vr34, opS, fpS, okP, pack, nAl, allocA, shId, leaves, fillA, fillR, splice, Nat.reduceLT, Nat.reduceEqDiff, Nat.reduceLeDiff, Nat.reduceAdd, Nat.reduceSub, Nat.reduceMul, Int.reduceBEq, Int.reduceBNe, Int.reduceLT, Int.reduceLE, Int.reduceEq, reduceIte, reduceCtorEq, da, int, boolA, RetP_go, resT, resC, resN, retV1, retV2, retV3, retV0, frzFZ, takeM, Option.some.injEq, itemC, h]
theorem k185 {x : ItemM} {K : Heap} {L : List Blk} {Q : AV → Heap → Prop} : KW ft (.fn (.func 185) [] []) [.agg (itemC x)] (hx K L) Q ↔ Q (int (longM x)) (hx K L) := KW_of (s185 x _)
def whyM (g : Int) (key value : Bytes) : Int := if gen g then (if key.length = 0 ∨ mxk g < key.length then 50 else if mxv g < value.length then 51 else 0) else 1
theorem s184 (g : Int) (key value : Bytes) (H : Heap) : callL ft (.fn (.func 184) [] []) [int g, encB key, encB value] H = some (.sc (.int .i64 (whyM g key value)), H) := by
  refine call_p (as' := [int g, encB key, encB value]) rfl rfl (by simp) ?_
  unfold c184 r184 whyM
  have k1 := fun g K L Q => @k140 g K L Q
  have k2 := fun g K L Q => @k170 g K L Q
  have k3 := fun g K L Q => @k186 g K L Q
  simp only [int] at k1 k2 k3
  cases h : gen g with
  | false => simp only [↓vp, vq0, vq1, vq2, vq3, vr0, vr1, vr2, vr3, vr4, vr5, vr6, vr7, vr8, vr9, vr10, vr11, vr12, vr13, vr14, vr15, vr16, vr17, vr18, vr19, vr20, vr21, vr22, vr23, vr24, vr25, vr26, vr27, vr28, vr29, vr30, vr31, vr32, vr33, vr34, opS, fpS, okP, pack, nAl, allocA, shId, leaves, fillA, fillR, splice, Nat.reduceLT, Nat.reduceEqDiff, Nat.reduceLeDiff, Nat.reduceAdd, Nat.reduceSub, Nat.reduceMul, Int.reduceBEq, Int.reduceBNe, Int.reduceLT, Int.reduceLE, Int.reduceEq, reduceIte, reduceCtorEq, da, int, boolA, RetP_go, resT, resC, resN, retV1, retV2, retV3, retV0, frzFZ, takeM, Option.some.injEq, k1, h]
  | true =>
    cases e1 : (key.length : Int) == 0 with
    | true =>
      have e2 : (key.length = 0) = True := eq_true (by simpa using e1)
      simp only [↓vp, vq0, vq1, vq2, vq3, vr0, vr1, vr2, vr3, vr4, vr5, vr6, vr7, vr8, vr9, vr10, vr11, vr12, vr13, vr14, vr15, vr16, vr17, vr18, vr19, vr20, vr21, vr22, vr23, vr24, vr25, vr26, vr27, vr28, vr29, vr30, vr31, vr32, vr33, vr34, opS, fpS, okP, pack, nAl, allocA, shId, leaves, fillA, fillR, splice, Nat.reduceLT, Nat.reduceEqDiff, Nat.reduceLeDiff, Nat.reduceAdd, Nat.reduceSub, Nat.reduceMul, Int.reduceBEq, Int.reduceBNe, Int.reduceLT, Int.reduceLE, Int.reduceEq, reduceIte, reduceCtorEq, da, int, boolA, RetP_go, resT, resC, resN, retV1, retV2, retV3, retV0, frzFZ, takeM, Option.some.injEq, k1, h, e1, e2, true_or]
      try rfl
    | false =>
      have e2 : (key.length = 0) = False := by simpa using e1
      by_cases e3 : mxk g < key.length
      · simp only [↓vp, vq0, vq1, vq2, vq3, vr0, vr1, vr2, vr3, vr4, vr5, vr6, vr7, vr8, vr9, vr10, vr11, vr12, vr13, vr14, vr15, vr16, vr17, vr18, vr19, vr20, vr21, vr22, vr23, vr24, vr25, vr26, vr27, vr28, vr29, vr30, vr31, vr32, vr33, vr34, opS, fpS, okP, pack, nAl, allocA, shId, leaves, fillA, fillR, splice, Nat.reduceLT, Nat.reduceEqDiff, Nat.reduceLeDiff, Nat.reduceAdd, Nat.reduceSub, Nat.reduceMul, Int.reduceBEq, Int.reduceBNe, Int.reduceLT, Int.reduceLE, Int.reduceEq, reduceIte, reduceCtorEq, da, int, boolA, RetP_go, resT, resC, resN, retV1, retV2, retV3, retV0, frzFZ, takeM, Option.some.injEq, k1, k2, h, e1, e2, e3, gt_iff_lt, or_true]
        try rfl
      · by_cases e4 : mxv g < value.length
        · simp only [↓vp, vq0, vq1, vq2, vq3, vr0, vr1, vr2, vr3, vr4, vr5, vr6, vr7, vr8, vr9, vr10, vr11, vr12, vr13, vr14, vr15, vr16, vr17, vr18, vr19, vr20, vr21, vr22, vr23, vr24, vr25, vr26, vr27, vr28, vr29, vr30, vr31, vr32, vr33, vr34, opS, fpS, okP, pack, nAl, allocA, shId, leaves, fillA, fillR, splice, Nat.reduceLT, Nat.reduceEqDiff, Nat.reduceLeDiff, Nat.reduceAdd, Nat.reduceSub, Nat.reduceMul, Int.reduceBEq, Int.reduceBNe, Int.reduceLT, Int.reduceLE, Int.reduceEq, reduceIte, reduceCtorEq, da, int, boolA, RetP_go, resT, resC, resN, retV1, retV2, retV3, retV0, frzFZ, takeM, Option.some.injEq, k1, k2, k3, h, e1, e2, e3, e4, gt_iff_lt, or_false, false_or]
          try rfl
        · simp only [↓vp, vq0, vq1, vq2, vq3, vr0, vr1, vr2, vr3, vr4, vr5, vr6, vr7, vr8, vr9, vr10, vr11, vr12, vr13, vr14, vr15, vr16, vr17, vr18, vr19, vr20, vr21, vr22, vr23, vr24, vr25, vr26, vr27, vr28, vr29, vr30, vr31, vr32, vr33, vr34, opS, fpS, okP, pack, nAl, allocA, shId, leaves, fillA, fillR, splice, Nat.reduceLT, Nat.reduceEqDiff, Nat.reduceLeDiff, Nat.reduceAdd, Nat.reduceSub, Nat.reduceMul, Int.reduceBEq, Int.reduceBNe, Int.reduceLT, Int.reduceLE, Int.reduceEq, reduceIte, reduceCtorEq, da, int, boolA, RetP_go, resT, resC, resN, retV1, retV2, retV3, retV0, frzFZ, takeM, Option.some.injEq, k1, k2, k3, h, e1, e2, e3, e4, gt_iff_lt, or_false, false_or]
          try rfl
end Go.VI

set_option linter.unusedVariables false
set_option linter.unusedSimpArgs false
set_option maxRecDepth 100000
namespace Go.VI
attribute [local congr] AW_congr OW_congr DW_congr NW_congr VW_congr GW_congr PW_congr KW_congr ite_congr' GV_congr CV_congr
def rightP (g : Int) (x : ItemM) : Bool := if whyM g x.key x.value != 0 || decide (mxv g < longM x) then false else if x.ref == 0 then x.size == 0 else decide (2 ≤ x.ref) && decide (x.ref < 16384) && decide (32 < x.size) && ((x.value.length : Int) == 0)
theorem s172 (g : Int) (x : ItemM) (H : Heap) : callL ft (.fn (.func 172) [] []) [int g, .agg (itemC x)] H = some (boolA (rightP g x), H) := by
  refine call_p (as' := [int g, .agg (itemC x)]) rfl rfl (by simp) ?_
  unfold c172 r172 rightP
  have k1 := fun g K L Q => KW_of (K := Q) (s184 g x.key x.value (hx K L))
  have k2 := fun K L Q => @k185 x K L Q
  have k3 := fun g K L Q => @k186 g K L Q
  simp only [int, itemC] at k1 k2 k3
  cases e1 : whyM g x.key x.value != 0 with
  | true => simp only [↓vp, vq0, vq1, vq2, vq3, vr0, vr1, vr2, vr3, vr4, vr5, vr6, vr7, vr8, vr9, vr10, vr11, vr12, vr13, vr14, vr15, vr16, vr17, vr18, vr19, vr20, vr21, vr22, vr23, vr24, vr25, vr26, vr27, vr28, vr29, vr30, vr31, vr32, vr33, vr34, opS, fpS, okP, pack, nAl, allocA, shId, leaves, fillA, fillR, splice, Nat.reduceLT, Nat.reduceEqDiff, Nat.reduceLeDiff, Nat.reduceAdd, Nat.reduceSub, Nat.reduceMul, Int.reduceBEq, Int.reduceBNe, Int.reduceLT, Int.reduceLE, Int.reduceEq, reduceIte, reduceCtorEq, da, int, boolA, RetP_go, resT, resC, resN, retV1, retV2, retV3, retV0, frzFZ, takeM, Option.some.injEq, itemC, k1, e1, Bool.true_or]
  | false =>
    by_cases e2 : mxv g < longM x
    · simp only [↓vp, vq0, vq1, vq2, vq3, vr0, vr1, vr2, vr3, vr4, vr5, vr6, vr7, vr8, vr9, vr10, vr11, vr12, vr13, vr14, vr15, vr16, vr17, vr18, vr19, vr20, vr21, vr22, vr23, vr24, vr25, vr26, vr27, vr28, vr29, vr30, vr31, vr32, vr33, vr34, opS, fpS, okP, pack, nAl, allocA, shId, leaves, fillA, fillR, splice, Nat.reduceLT, Nat.reduceEqDiff, Nat.reduceLeDiff, Nat.reduceAdd, Nat.reduceSub, Nat.reduceMul, Int.reduceBEq, Int.reduceBNe, Int.reduceLT, Int.reduceLE, Int.reduceEq, reduceIte, reduceCtorEq, da, int, boolA, RetP_go, resT, resC, resN, retV1, retV2, retV3, retV0, frzFZ, takeM, Option.some.injEq, itemC, k1, k2, k3, e1, e2, gt_iff_lt, decide_true, Bool.or_true]
    · cases e3 : x.ref == 0 with
      | true => simp only [↓vp, vq0, vq1, vq2, vq3, vr0, vr1, vr2, vr3, vr4, vr5, vr6, vr7, vr8, vr9, vr10, vr11, vr12, vr13, vr14, vr15, vr16, vr17, vr18, vr19, vr20, vr21, vr22, vr23, vr24, vr25, vr26, vr27, vr28, vr29, vr30, vr31, vr32, vr33, vr34, opS, fpS, okP, pack, nAl, allocA, shId, leaves, fillA, fillR, splice, Nat.reduceLT, Nat.reduceEqDiff, Nat.reduceLeDiff, Nat.reduceAdd, Nat.reduceSub, Nat.reduceMul, Int.reduceBEq, Int.reduceBNe, Int.reduceLT, Int.reduceLE, Int.reduceEq, reduceIte, reduceCtorEq, da, int, boolA, RetP_go, resT, resC, resN, retV1, retV2, retV3, retV0, frzFZ, takeM, Option.some.injEq, itemC, k1, k2, k3, e1, e2, e3, gt_iff_lt, decide_false, Bool.or_false]
      | false =>
        by_cases e4 : 2 ≤ x.ref
        · by_cases e5 : x.ref < 16384
          · by_cases e6 : 32 < x.size
            · simp only [↓vp, vq0, vq1, vq2, vq3, vr0, vr1, vr2, vr3, vr4, vr5, vr6, vr7, vr8, vr9, vr10, vr11, vr12, vr13, vr14, vr15, vr16, vr17, vr18, vr19, vr20, vr21, vr22, vr23, vr24, vr25, vr26, vr27, vr28, vr29, vr30, vr31, vr32, vr33, vr34, opS, fpS, okP, pack, nAl, allocA, shId, leaves, fillA, fillR, splice, Nat.reduceLT, Nat.reduceEqDiff, Nat.reduceLeDiff, Nat.reduceAdd, Nat.reduceSub, Nat.reduceMul, Int.reduceBEq, Int.reduceBNe, Int.reduceLT, Int.reduceLE, Int.reduceEq, reduceIte, reduceCtorEq, da, int, boolA, RetP_go, resT, resC, resN, retV1, retV2, retV3, retV0, frzFZ, takeM, Option.some.injEq, itemC, k1, k2, k3, e1, e2, e3, e4, e5, e6, gt_iff_lt, ge_iff_le, decide_true, decide_false, Bool.or_false, Bool.true_and]
            · simp only [↓vp, vq0, vq1, vq2, vq3, vr0, vr1, vr2, vr3, vr4, vr5, vr6, vr7, vr8, vr9, vr10, vr11, vr12, vr13, vr14, vr15, vr16, vr17, vr18, vr19, vr20, vr21, vr22, vr23, vr24, vr25, vr26, vr27, vr28, vr29, vr30, vr31, vr32, vr33, vr34, opS, fpS, okP, pack, nAl, allocA, shId, leaves, fillA, fillR, splice, Nat.reduceLT, Nat.reduceEqDiff, Nat.reduceLeDiff, Nat.reduceAdd, Nat.reduceSub, Nat.reduceMul, Int.reduceBEq, Int.reduceBNe, Int.reduceLT, Int.reduceLE, Int.reduceEq, reduceIte, reduceCtorEq, da, int, boolA, RetP_go, resT, resC, resN, retV1, retV2, retV3, retV0, frzFZ, takeM, Option.some.injEq, itemC, k1, k2, k3, e1, e2, e3, e4, e5, e6, gt_iff_lt, ge_iff_le, decide_true, decide_false, Bool.or_false, Bool.true_and, Bool.false_and]
          · simp only [↓vp, vq0, vq1, vq2, vq3, vr0, vr1, vr2, vr3, vr4, vr5, vr6, vr7, vr8, vr9, vr10, vr11, vr12, vr13, vr14, vr15, vr16, vr17, vr18, vr19, vr20, vr21, vr22, vr23, vr24, vr25, vr26, vr27, vr28, vr29, vr30, vr31, vr32, vr33, vr34, opS, fpS, okP, pack, nAl, allocA, shId, leaves, fillA, fillR, splice, Nat.reduceLT, Nat.reduceEqDiff, Nat.reduceLeDiff, Nat.reduceAdd, Nat.reduceSub, Nat.reduceMul, Int.reduceBEq, Int.reduceBNe, Int.reduceLT, Int.reduceLE, Int.reduceEq, reduceIte, reduceCtorEq, da, int, boolA, RetP_go, resT, resC, resN, retV1, retV2, retV3, retV0, frzFZ, takeM, Option.some.injEq, itemC, k1, k2, k3, e1, e2, e3, e4, e5, gt_iff_lt, ge_iff_le, decide_true, decide_false, Bool.or_false, Bool.true_and, Bool.false_and]
        · simp only [↓vp, vq0, vq1, vq2, vq3, vr0, vr1, vr2, vr3, vr4, vr5, vr6, vr7, vr8, vr9, vr10, vr11, vr12, vr13, vr14, vr15, vr16, vr17, vr18, vr19, vr20, vr21, vr22, vr23, vr24, vr25, vr26, vr27, vr28, vr29, vr30, vr31, vr32, vr33, vr34, opS, fpS, okP, pack, nAl, allocA, shId, leaves, fillA, fillR, splice, Nat.reduceLT, Nat.reduceEqDiff, Nat.reduceLeDiff, Nat.reduceAdd, Nat.reduceSub, Nat.reduceMul, Int.reduceBEq, Int.reduceBNe, Int.reduceLT, Int.reduceLE, Int.reduceEq, reduceIte, reduceCtorEq, da, int, boolA, RetP_go, resT, resC, resN, retV1, retV2, retV3, retV0, frzFZ, takeM, Option.some.injEq, itemC, k1, k2, k3, e1, e2, e3, e4, gt_iff_lt, ge_iff_le, decide_true, decide_false, Bool.or_false, Bool.false_and]
theorem k172 {g : Int} {x : ItemM} {K : Heap} {L : List Blk} {Q : AV → Heap → Prop} : KW ft (.fn (.func 172) [] []) [int g, .agg (itemC x)] (hx K L) Q ↔ Q (boolA (rightP g x)) (hx K L) := KW_of (s172 g x _)
end Go.VI

set_option linter.unusedVariables false
set_option linter.unusedSimpArgs false
namespace Go.VI
theorem cmpB_refl : ∀ a : Bytes, cmpB a a = 0
  | [] => rfl
  | x :: a => by simp [cmpB, cmpB_refl a]
theorem cmpB_eq : ∀ {a b : Bytes}, cmpB a b = 0 → a = b
  | [], [], _ => rfl
  | [], _ :: _, h => by simp [cmpB] at h
  | _ :: _, [], h => by simp [cmpB] at h
  | x :: a, y :: b, h => by
    simp only [cmpB] at h
    by_cases h1 : x < y
    · simp [h1] at h
    · by_cases h2 : y < x
      · simp [h1, h2] at h
      · simp only [h1, h2, if_false] at h
        have : x = y := by omega
        rw [this, cmpB_eq h]
theorem strOf_inj : ∀ {a b : Bytes}, byteR a = true → byteR b = true → strOfNums a = strOfNums b → a = b
  | [], [], _, _, _ => rfl
  | [], _ :: _, _, _, h => by simp [strOfNums] at h
  | _ :: _, [], _, _, h => by simp [strOfNums] at h
  | x :: a, y :: b, ha, hb, h => by
    simp only [byteR, List.all_cons, Bool.and_eq_true, decide_eq_true_eq] at ha hb
    simp only [strOfNums, List.map_cons, ByteArray.mk.injEq, Array.mk.injEq, List.cons.injEq] at h
    have e1 : x = y := by
      have := congrArg UInt8.toNat h.1
      simp at this
      omega
    rw [e1, strOf_inj (a := a) (b := b) ha.2 hb.2 (by simp only [strOfNums, h.2])]
def sameB (a b : Bytes) : Bool := cmpB a b == 0
theorem sameB_iff {a b : Bytes} : sameB a b = true ↔ a = b := by
  unfold sameB
  rw [beq_iff_eq]
  exact ⟨cmpB_eq, fun h => by rw [h]; exact cmpB_refl b⟩
theorem strOf_beq {a b : Bytes} (ha : byteR a = true) (hb : byteR b = true) : ((strOfNums a).toList == (strOfNums b).toList) = sameB a b := by
  rw [Lib.strOfNums_toList, Lib.strOfNums_toList, Bool.eq_iff_iff, beq_iff_eq, sameB_iff]
  refine ⟨fun h => strOf_inj ha hb ?_, fun h => by rw [h]⟩
  unfold Lib.bytesOf at h
  simp only [strOfNums, h]
end Go.VI

set_option linter.unusedVariables false
set_option linter.unusedSimpArgs false
set_option maxRecDepth 100000
namespace Go.VI
attribute [local congr] AW_congr OW_congr DW_congr NW_congr VW_congr GW_congr PW_congr KW_congr ite_congr' GV_congr CV_congr
theorem bytesOf_encB (H : Heap) (l : Bytes) : (rowsOf H (encB l)).bind (fun rs => (bytesOfRows rs).map fun l => (AV.sc (.string (strOfNums l)), H)) = some (.sc (.string (strOfNums l)), H) := by
  show ((bytesOfRows (l.map byteC)).map fun l => (AV.sc (.string (strOfNums l)), H)) = _
  rw [show bytesOfRows (l.map byteC) = some l from bytesOfRows_map l]
  rfl
theorem bin_eqs (t : TypeId) (a b : ByteArray) : binA .eql t (.sc (.string a)) (.sc (.string b)) = some (.sc (.bool (a.toList == b.toList))) := by
  simp [binA, binOp, Op.stringOp, pureRun, ofScalar, isSc, pure]
theorem s23 {a b : Bytes} (ha : okB a) (hb : okB b) (H : Heap) : callL ft (.fn (.func 23) [] []) [encB a, encB b] H = some (boolA (sameB a b), H) := by
  refine call_p (as' := [encB a, encB b]) rfl rfl (by simp) ?_
  unfold c23 r23
  rw [← strOf_beq ha.r hb.r]
  simp only [↓vp, vq0, vq1, vq2, vq3, vr0, vr1, vr2, vr3, vr4, vr5, vr6, vr7, vr8, vr9, vr10, vr11, vr12, vr13, vr14, vr15, vr16, vr17, vr18, vr19, vr20, vr21, vr22, vr23, vr24, vr25, vr26, vr27, vr28, vr29, vr30, vr31, vr32, vr33, vr34, opS, fpS, okP, pack, nAl, allocA, shId, leaves, fillA, fillR, splice, Nat.reduceLT, Nat.reduceEqDiff, Nat.reduceLeDiff, Nat.reduceAdd, Nat.reduceSub, Nat.reduceMul, Int.reduceBEq, Int.reduceBNe, Int.reduceLT, Int.reduceLE, Int.reduceEq, reduceIte, reduceCtorEq, da, int, boolA, RetP_go, resT, resC, resN, retV1, retV2, retV3, retV0, frzFZ, takeM, Option.some.injEq, bytesOf_encB, bin_eqs]
theorem k23 {a b : Bytes} (ha : okB a) (hb : okB b) {K : Heap} {L : List Blk} {Q : AV → Heap → Prop} : KW ft (.fn (.func 23) [] []) [encB a, encB b] (hx K L) Q ↔ Q (boolA (sameB a b)) (hx K L) := KW_of (s23 ha hb _)
theorem s97 (x y : ItemM) (hx_ : okIt x) (hy : okIt y) (H : Heap) : callL ft (.fn (.func 97) [] []) [.agg (itemC x), .agg (itemC y)] H = some (boolA (sameI x y), H) := by
  refine call_p (as' := [.agg (itemC x), .agg (itemC y)]) rfl rfl (by simp) ?_
  unfold c97 r97
  have h1 := hx_.k
  have h2 := hx_.v
  have h3 := hy.k
  have h4 := hy.v
  show AW _ _ _ _ (RetP _ (boolA (sameB x.key y.key && sameB x.value y.value && x.size == y.size && x.ref == y.ref)))
  cases e1 : sameB x.key y.key with
  | false => simp only [↓vp, vq0, vq1, vq2, vq3, vr0, vr1, vr2, vr3, vr4, vr5, vr6, vr7, vr8, vr9, vr10, vr11, vr12, vr13, vr14, vr15, vr16, vr17, vr18, vr19, vr20, vr21, vr22, vr23, vr24, vr25, vr26, vr27, vr28, vr29, vr30, vr31, vr32, vr33, vr34, opS, fpS, okP, pack, nAl, allocA, shId, leaves, fillA, fillR, splice, Nat.reduceLT, Nat.reduceEqDiff, Nat.reduceLeDiff, Nat.reduceAdd, Nat.reduceSub, Nat.reduceMul, Int.reduceBEq, Int.reduceBNe, Int.reduceLT, Int.reduceLE, Int.reduceEq, reduceIte, reduceCtorEq, da, int, boolA, RetP_go, resT, resC, resN, retV1, retV2, retV3, retV0, frzFZ, takeM, Option.some.injEq, itemC, k23, h1, h2, h3, h4, e1, Bool.false_and]
  | true =>
    cases e2 : sameB x.value y.value with
    | false => simp only [↓vp, vq0, vq1, vq2, vq3, vr0, vr1, vr2, vr3, vr4, vr5, vr6, vr7, vr8, vr9, vr10, vr11, vr12, vr13, vr14, vr15, vr16, vr17, vr18, vr19, vr20, vr21, vr22, vr23, vr24, vr25, vr26, vr27, vr28, vr29, vr30, vr31, vr32, vr33, vr34, opS, fpS, okP, pack, nAl, allocA, shId, leaves, fillA, fillR, splice, Nat.reduceLT, Nat.reduceEqDiff, Nat.reduceLeDiff, Nat.reduceAdd, Nat.reduceSub, Nat.reduceMul, Int.reduceBEq, Int.reduceBNe, Int.reduceLT, Int.reduceLE, Int.reduceEq, reduceIte, reduceCtorEq, da, int, boolA, RetP_go, resT, resC, resN, retV1, retV2, retV3, retV0, frzFZ, takeM, Option.some.injEq, itemC, k23, h1, h2, h3, h4, e1, e2, Bool.false_and, Bool.true_and]
    | true =>
      cases e3 : x.size == y.size with
      | false => simp only [↓vp, vq0, vq1, vq2, vq3, vr0, vr1, vr2, vr3, vr4, vr5, vr6, vr7, vr8, vr9, vr10, vr11, vr12, vr13, vr14, vr15, vr16, vr17, vr18, vr19, vr20, vr21, vr22, vr23, vr24, vr25, vr26, vr27, vr28, vr29, vr30, vr31, vr32, vr33, vr34, opS, fpS, okP, pack, nAl, allocA, shId, leaves, fillA, fillR, splice, Nat.reduceLT, Nat.reduceEqDiff, Nat.reduceLeDiff, Nat.reduceAdd, Nat.reduceSub, Nat.reduceMul, Int.reduceBEq, Int.reduceBNe, Int.reduceLT, Int.reduceLE, Int.reduceEq, reduceIte, reduceCtorEq, da, int, boolA, RetP_go, resT, resC, resN, retV1, retV2, retV3, retV0, frzFZ, takeM, Option.some.injEq, itemC, k23, h1, h2, h3, h4, e1, e2, e3, Bool.false_and, Bool.true_and]
      | true => simp only [↓vp, vq0, vq1, vq2, vq3, vr0, vr1, vr2, vr3, vr4, vr5, vr6, vr7, vr8, vr9, vr10, vr11, vr12, vr13, vr14, vr15, vr16, vr17, vr18, vr19, vr20, vr21, vr22, vr23, vr24, vr25, vr26, vr27, vr28, vr29, vr30, vr31, vr32, vr33, vr34, opS, fpS, okP, pack, nAl, allocA, shId, leaves, fillA, fillR, splice, Nat.reduceLT, Nat.reduceEqDiff, Nat.reduceLeDiff, Nat.reduceAdd, Nat.reduceSub, Nat.reduceMul, Int.reduceBEq, Int.reduceBNe, Int.reduceLT, Int.reduceLE, Int.reduceEq, reduceIte, reduceCtorEq, da, int, boolA, RetP_go, resT, resC, resN, retV1, retV2, retV3, retV0, frzFZ, takeM, Option.some.injEq, itemC, k23, h1, h2, h3, h4, e1, e2, e3, Bool.true_and]
theorem k97 {x y : ItemM} (hx_ : okIt x) (hy : okIt y) {K : Heap} {L : List Blk} {Q : AV → Heap → Prop} : KW ft (.fn (.func 97) [] []) [.agg (itemC x), .agg (itemC y)] (hx K L) Q ↔ Q (boolA (sameI x y)) (hx K L) := KW_of (s97 x y hx_ hy _)
theorem s95 (x y : KidM) (h1 : okB x.key) (h2 : okB y.key) (H : Heap) : callL ft (.fn (.func 95) [] []) [.agg (kidC x), .agg (kidC y)] H = some (boolA (sameB x.key y.key && x.ref == y.ref), H) := by
  refine call_p (as' := [.agg (kidC x), .agg (kidC y)]) rfl rfl (by simp) ?_
  unfold c95 r95
  cases e1 : sameB x.key y.key with
  | false => simp only [↓vp, vq0, vq1, vq2, vq3, vr0, vr1, vr2, vr3, vr4, vr5, vr6, vr7, vr8, vr9, vr10, vr11, vr12, vr13, vr14, vr15, vr16, vr17, vr18, vr19, vr20, vr21, vr22, vr23, vr24, vr25, vr26, vr27, vr28, vr29, vr30, vr31, vr32, vr33, vr34, opS, fpS, okP, pack, nAl, allocA, shId, leaves, fillA, fillR, splice, Nat.reduceLT, Nat.reduceEqDiff, Nat.reduceLeDiff, Nat.reduceAdd, Nat.reduceSub, Nat.reduceMul, Int.reduceBEq, Int.reduceBNe, Int.reduceLT, Int.reduceLE, Int.reduceEq, reduceIte, reduceCtorEq, da, int, boolA, RetP_go, resT, resC, resN, retV1, retV2, retV3, retV0, frzFZ, takeM, Option.some.injEq, kidC, k23, h1, h2, e1, Bool.false_and]
  | true => simp only [↓vp, vq0, vq1, vq2, vq3, vr0, vr1, vr2, vr3, vr4, vr5, vr6, vr7, vr8, vr9, vr10, vr11, vr12, vr13, vr14, vr15, vr16, vr17, vr18, vr19, vr20, vr21, vr22, vr23, vr24, vr25, vr26, vr27, vr28, vr29, vr30, vr31, vr32, vr33, vr34, opS, fpS, okP, pack, nAl, allocA, shId, leaves, fillA, fillR, splice, Nat.reduceLT, Nat.reduceEqDiff, Nat.reduceLeDiff, Nat.reduceAdd, Nat.reduceSub, Nat.reduceMul, Int.reduceBEq, Int.reduceBNe, Int.reduceLT, Int.reduceLE, Int.reduceEq, reduceIte, reduceCtorEq, da, int, boolA, RetP_go, resT, resC, resN, retV1, retV2, retV3, retV0, frzFZ, takeM, Option.some.injEq, kidC, k23, h1, h2, e1, Bool.true_and]
theorem k95 {x y : KidM} (h1 : okB x.key) (h2 : okB y.key) {K : Heap} {L : List Blk} {Q : AV → Heap → Prop} : KW ft (.fn (.func 95) [] []) [.agg (kidC x), .agg (kidC y)] (hx K L) Q ↔ Q (boolA (sameB x.key y.key && x.ref == y.ref)) (hx K L) := KW_of (s95 x y h1 h2 _)
end Go.VI

set_option linter.unusedVariables false
set_option linter.unusedSimpArgs false
set_option maxRecDepth 100000
namespace Go.VI
attribute [local congr] AW_congr OW_congr DW_congr NW_congr VW_congr GW_congr PW_congr KW_congr ite_congr' GV_congr CV_congr
theorem sameK_eq (x y : KidM) : (sameB x.key y.key && x.ref == y.ref) = sameK x y := Bool.and_comm _ _
theorem l96 (a b : List ItemM) (ha : okI a) (hb : okI b) (hl : a.length = b.length) {Q : AExit → Env → Heap → Prop}
   (hex : ∀ f' K', sameIs a b = true → Q (.exit 0) (mkE 32 f') (hx K' []))
   (hret : ∀ f' K', sameIs a b = false → f' 6 = boolA false → Q .ret (mkE 32 f') (hx K' [])) :
   ∀ (d i : Nat) (K : Heap) (f : Nat → AV), i + d = a.length → sameIs a b = sameIs (a.drop i) (b.drop i) → f 1 = encI b → f 2 = .fn (.func 97) [] [] → f 15 = encI a → f 16 = int a.length → f 17 = int i →
    AW ft (.loop c96L0) (mkE 32 f) (hx K []) Q := by
  intro d
  have hi := ha.n
  unfold MX at hi
  induction d with
  | zero =>
    intro i K f hd hc h1 h2 h15 h16 h17
    have g : ((i : Int) < a.length) = False := by simp; omega
    rw [AW_loop]
    unfold c96L0
    rw [List.drop_eq_nil_of_le (by omega)] at hc
    simp only [↓vp, vq0, vq1, vq2, vq3, vr0, vr1, vr2, vr3, vr4, vr5, vr6, vr7, vr8, vr9, vr10, vr11, vr12, vr13, vr14, vr15, vr16, vr17, vr18, vr19, vr20, vr21, vr22, vr23, vr24, vr25, vr26, vr27, vr28, vr29, vr30, vr31, vr32, vr33, vr34, opS, fpS, okP, pack, nAl, allocA, shId, leaves, fillA, fillR, splice, Nat.reduceLT, Nat.reduceEqDiff, Nat.reduceLeDiff, Nat.reduceAdd, Nat.reduceSub, Nat.reduceMul, Int.reduceBEq, Int.reduceBNe, Int.reduceLT, Int.reduceLE, Int.reduceEq, reduceIte, reduceCtorEq, da, int, boolA, h16, h17, g]
    exact hex _ _ (by rw [hc]; rfl)
  | succ d ih =>
    intro i K f hd hc h1 h2 h15 h16 h17
    have g : ((i : Int) < a.length) = True := by simp; omega
    have gi : i < a.length := by omega
    have gj : i < b.length := by omega
    have o1 := ha.at_ gi
    have o2 := hb.at_ gj
    rw [AW_loop]
    unfold c96L0
    rw [List.drop_eq_getElem_cons gi, List.drop_eq_getElem_cons gj, sameIs] at hc
    have w1 := wrap_succ (show i < 9223372036854775807 by omega)
    cases e1 : sameI a[i] b[i] with
    | false =>
      simp only [↓vp, vq0, vq1, vq2, vq3, vr0, vr1, vr2, vr3, vr4, vr5, vr6, vr7, vr8, vr9, vr10, vr11, vr12, vr13, vr14, vr15, vr16, vr17, vr18, vr19, vr20, vr21, vr22, vr23, vr24, vr25, vr26, vr27, vr28, vr29, vr30, vr31, vr32, vr33, vr34, opS, fpS, okP, pack, nAl, allocA, shId, leaves, fillA, fillR, splice, Nat.reduceLT, Nat.reduceEqDiff, Nat.reduceLeDiff, Nat.reduceAdd, Nat.reduceSub, Nat.reduceMul, Int.reduceBEq, Int.reduceBNe, Int.reduceLT, Int.reduceLE, Int.reduceEq, reduceIte, reduceCtorEq, da, int, boolA, h1, h2, h15, h16, h17, g, atI gi, cI gi, atI gj, cI gj, k97, o1, o2, e1]
      rw [← hx_nil (hx K _)]
      refine hret _ _ (by rw [hc, e1, Bool.false_and]) ?_
      simp only [↓vp, vq0, vq1, vq2, vq3, vr0, vr1, vr2, vr3, vr4, vr5, vr6, vr7, vr8, vr9, vr10, vr11, vr12, vr13, vr14, vr15, vr16, vr17, vr18, vr19, vr20, vr21, vr22, vr23, vr24, vr25, vr26, vr27, vr28, vr29, vr30, vr31, vr32, vr33, vr34, opS, fpS, okP, pack, nAl, allocA, shId, leaves, fillA, fillR, splice, Nat.reduceLT, Nat.reduceEqDiff, Nat.reduceLeDiff, Nat.reduceAdd, Nat.reduceSub, Nat.reduceMul, Int.reduceBEq, Int.reduceBNe, Int.reduceLT, Int.reduceLE, Int.reduceEq, reduceIte, reduceCtorEq, da, int, boolA]
    | true =>
      simp only [↓vp, vq0, vq1, vq2, vq3, vr0, vr1, vr2, vr3, vr4, vr5, vr6, vr7, vr8, vr9, vr10, vr11, vr12, vr13, vr14, vr15, vr16, vr17, vr18, vr19, vr20, vr21, vr22, vr23, vr24, vr25, vr26, vr27, vr28, vr29, vr30, vr31, vr32, vr33, vr34, opS, fpS, okP, pack, nAl, allocA, shId, leaves, fillA, fillR, splice, Nat.reduceLT, Nat.reduceEqDiff, Nat.reduceLeDiff, Nat.reduceAdd, Nat.reduceSub, Nat.reduceMul, Int.reduceBEq, Int.reduceBNe, Int.reduceLT, Int.reduceLE, Int.reduceEq, reduceIte, reduceCtorEq, da, int, boolA, h1, h2, h15, h16, h17, g, atI gi, cI gi, atI gj, cI gj, k97, o1, o2, e1, w1]
      rw [← hx_nil (hx K _)]
      refine ih (i + 1) _ _ (by omega) (by rw [hc, e1, Bool.true_and]) ?_ ?_ ?_ ?_ ?_ <;> simp only [↓vp, vq0, vq1, vq2, vq3, vr0, vr1, vr2, vr3, vr4, vr5, vr6, vr7, vr8, vr9, vr10, vr11, vr12, vr13, vr14, vr15, vr16, vr17, vr18, vr19, vr20, vr21, vr22, vr23, vr24, vr25, vr26, vr27, vr28, vr29, vr30, vr31, vr32, vr33, vr34, opS, fpS, okP, pack, nAl, allocA, shId, leaves, fillA, fillR, splice, Nat.reduceLT, Nat.reduceEqDiff, Nat.reduceLeDiff, Nat.reduceAdd, Nat.reduceSub, Nat.reduceMul, Int.reduceBEq, Int.reduceBNe, Int.reduceLT, Int.reduceLE, Int.reduceEq, reduceIte, reduceCtorEq, da, int, boolA, h1, h2, h15, h16]
theorem s96 (a b : List ItemM) (ha : okI a) (hb : okI b) (H : Heap) : callL ft (.fn (.func 96) [] []) [encI a, encI b, .fn (.func 97) [] []] H = some (boolA (a.length == b.length && sameIs a b), H) := by
  refine call_p (as' := [encI a, encI b, .fn (.func 97) [] []]) rfl rfl (by simp) ?_
  unfold c96 r96
  cases e : a.length == b.length with
  | false =>
    have e' : ((a.length : Int) != b.length) = true := by
      have : a.length ≠ b.length := by simpa using e
      simp; omega
    simp only [↓vp, vq0, vq1, vq2, vq3, vr0, vr1, vr2, vr3, vr4, vr5, vr6, vr7, vr8, vr9, vr10, vr11, vr12, vr13, vr14, vr15, vr16, vr17, vr18, vr19, vr20, vr21, vr22, vr23, vr24, vr25, vr26, vr27, vr28, vr29, vr30, vr31, vr32, vr33, vr34, opS, fpS, okP, pack, nAl, allocA, shId, leaves, fillA, fillR, splice, Nat.reduceLT, Nat.reduceEqDiff, Nat.reduceLeDiff, Nat.reduceAdd, Nat.reduceSub, Nat.reduceMul, Int.reduceBEq, Int.reduceBNe, Int.reduceLT, Int.reduceLE, Int.reduceEq, reduceIte, reduceCtorEq, da, int, boolA, RetP_go, resT, resC, resN, retV1, retV2, retV3, retV0, frzFZ, takeM, Option.some.injEq, e', Bool.false_and]
  | true =>
    have h2 : a.length = b.length := by simpa using e
    have e' : ((a.length : Int) != b.length) = false := by simp; omega
    simp only [↓vp, vq0, vq1, vq2, vq3, vr0, vr1, vr2, vr3, vr4, vr5, vr6, vr7, vr8, vr9, vr10, vr11, vr12, vr13, vr14, vr15, vr16, vr17, vr18, vr19, vr20, vr21, vr22, vr23, vr24, vr25, vr26, vr27, vr28, vr29, vr30, vr31, vr32, vr33, vr34, opS, fpS, okP, pack, nAl, allocA, shId, leaves, fillA, fillR, splice, Nat.reduceLT, Nat.reduceEqDiff, Nat.reduceLeDiff, Nat.reduceAdd, Nat.reduceSub, Nat.reduceMul, Int.reduceBEq, Int.reduceBNe, Int.reduceLT, Int.reduceLE, Int.reduceEq, reduceIte, reduceCtorEq, da, int, boolA, e']
    refine l96 a b ha hb h2 (fun f' K' hs => ?_) (fun f' K' hs h6 => ?_) a.length 0 _ _ (by omega) rfl ?_ ?_ ?_ ?_ ?_
    · unfold c96R1
      simp only [↓vp, vq0, vq1, vq2, vq3, vr0, vr1, vr2, vr3, vr4, vr5, vr6, vr7, vr8, vr9, vr10, vr11, vr12, vr13, vr14, vr15, vr16, vr17, vr18, vr19, vr20, vr21, vr22, vr23, vr24, vr25, vr26, vr27, vr28, vr29, vr30, vr31, vr32, vr33, vr34, opS, fpS, okP, pack, nAl, allocA, shId, leaves, fillA, fillR, splice, Nat.reduceLT, Nat.reduceEqDiff, Nat.reduceLeDiff, Nat.reduceAdd, Nat.reduceSub, Nat.reduceMul, Int.reduceBEq, Int.reduceBNe, Int.reduceLT, Int.reduceLE, Int.reduceEq, reduceIte, reduceCtorEq, da, int, boolA, RetP_go, resT, resC, resN, retV1, retV2, retV3, retV0, frzFZ, takeM, Option.some.injEq, hs, Bool.true_and]
    · simp only [↓vp, vq0, vq1, vq2, vq3, vr0, vr1, vr2, vr3, vr4, vr5, vr6, vr7, vr8, vr9, vr10, vr11, vr12, vr13, vr14, vr15, vr16, vr17, vr18, vr19, vr20, vr21, vr22, vr23, vr24, vr25, vr26, vr27, vr28, vr29, vr30, vr31, vr32, vr33, vr34, opS, fpS, okP, pack, nAl, allocA, shId, leaves, fillA, fillR, splice, Nat.reduceLT, Nat.reduceEqDiff, Nat.reduceLeDiff, Nat.reduceAdd, Nat.reduceSub, Nat.reduceMul, Int.reduceBEq, Int.reduceBNe, Int.reduceLT, Int.reduceLE, Int.reduceEq, reduceIte, reduceCtorEq, da, int, boolA, RetP_go, resT, resC, resN, retV1, retV2, retV3, retV0, frzFZ, takeM, Option.some.injEq, hs, h6, Bool.and_false]
    all_goals first | rfl | (simp only [↓vp, vq0, vq1, vq2, vq3, vr0, vr1, vr2, vr3, vr4, vr5, vr6, vr7, vr8, vr9, vr10, vr11, vr12, vr13, vr14, vr15, vr16, vr17, vr18, vr19, vr20, vr21, vr22, vr23, vr24, vr25, vr26, vr27, vr28, vr29, vr30, vr31, vr32, vr33, vr34, opS, fpS, okP, pack, nAl, allocA, shId, leaves, fillA, fillR, splice, Nat.reduceLT, Nat.reduceEqDiff, Nat.reduceLeDiff, Nat.reduceAdd, Nat.reduceSub, Nat.reduceMul, Int.reduceBEq, Int.reduceBNe, Int.reduceLT, Int.reduceLE, Int.reduceEq, reduceIte, reduceCtorEq, da, int, boolA]; done)
theorem k96 {a b : List ItemM} (ha : okI a) (hb : okI b) {K : Heap} {L : List Blk} {Q : AV → Heap → Prop} : KW ft (.fn (.func 96) [] []) [encI a, encI b, .fn (.func 97) [] []] (hx K L) Q ↔ Q (boolA (a.length == b.length && sameIs a b)) (hx K L) := KW_of (s96 a b ha hb _)
theorem l98 (a b : List KidM) (ha : okK a) (hb : okK b) (hl : a.length = b.length) {Q : AExit → Env → Heap → Prop}
   (hex : ∀ f' K', sameKs a b = true → Q (.exit 0) (mkE 32 f') (hx K' []))
   (hret : ∀ f' K', sameKs a b = false → f' 6 = boolA false → Q .ret (mkE 32 f') (hx K' [])) :
   ∀ (d i : Nat) (K : Heap) (f : Nat → AV), i + d = a.length → sameKs a b = sameKs (a.drop i) (b.drop i) → f 1 = encK b → f 2 = .fn (.func 95) [] [] → f 15 = encK a → f 16 = int a.length → f 17 = int i →
    AW ft (.loop c98L0) (mkE 32 f) (hx K []) Q := by
  intro d
  have hi := ha.n
  unfold MX at hi
  induction d with
  | zero =>
    intro i K f hd hc h1 h2 h15 h16 h17
    have g : ((i : Int) < a.length) = False := by simp; omega
    rw [AW_loop]
    unfold c98L0
    rw [List.drop_eq_nil_of_le (by omega)] at hc
    simp only [↓vp, vq0, vq1, vq2, vq3, vr0, vr1, vr2, vr3, vr4, vr5, vr6, vr7, vr8, vr9, vr10, vr11, vr12, vr13, vr14, vr15, vr16, vr17, vr18, vr19, vr20, vr21, vr22, vr23, vr24, vr25, vr26, vr27, vr28, vr29, vr30, vr31, vr32, vr33, vr34, opS, fpS, okP, pack, nAl, allocA, shId, leaves, fillA, fillR, splice, Nat.reduceLT, Nat.reduceEqDiff, Nat.reduceLeDiff, Nat.reduceAdd, Nat.reduceSub, Nat.reduceMul, Int.reduceBEq, Int.reduceBNe, Int.reduceLT, Int.reduceLE, Int.reduceEq, reduceIte, reduceCtorEq, da, int, boolA, h16, h17, g]
    exact hex _ _ (by rw [hc]; rfl)
  | succ d ih =>
    intro i K f hd hc h1 h2 h15 h16 h17
    have g : ((i : Int) < a.length) = True := by simp; omega
    have gi : i < a.length := by omega
    have gj : i < b.length := by omega
    have o1 := ha.at_ gi
    have o2 := hb.at_ gj
    rw [AW_loop]
    unfold c98L0
    rw [List.drop_eq_getElem_cons gi, List.drop_eq_getElem_cons gj, sameKs] at hc
    have w1 := wrap_succ (show i < 9223372036854775807 by omega)
    cases e1 : sameK a[i] b[i] with
    | false =>
      simp only [↓vp, vq0, vq1, vq2, vq3, vr0, vr1, vr2, vr3, vr4, vr5, vr6, vr7, vr8, vr9, vr10, vr11, vr12, vr13, vr14, vr15, vr16, vr17, vr18, vr19, vr20, vr21, vr22, vr23, vr24, vr25, vr26, vr27, vr28, vr29, vr30, vr31, vr32, vr33, vr34, opS, fpS, okP, pack, nAl, allocA, shId, leaves, fillA, fillR, splice, Nat.reduceLT, Nat.reduceEqDiff, Nat.reduceLeDiff, Nat.reduceAdd, Nat.reduceSub, Nat.reduceMul, Int.reduceBEq, Int.reduceBNe, Int.reduceLT, Int.reduceLE, Int.reduceEq, reduceIte, reduceCtorEq, da, int, boolA, h1, h2, h15, h16, h17, g, atK gi, cK gi, atK gj, cK gj, k95, o1, o2, sameK_eq, e1]
      rw [← hx_nil (hx K _)]
      refine hret _ _ (by rw [hc, e1, Bool.false_and]) ?_
      simp only [↓vp, vq0, vq1, vq2, vq3, vr0, vr1, vr2, vr3, vr4, vr5, vr6, vr7, vr8, vr9, vr10, vr11, vr12, vr13, vr14, vr15, vr16, vr17, vr18, vr19, vr20, vr21, vr22, vr23, vr24, vr25, vr26, vr27, vr28, vr29, vr30, vr31, vr32, vr33, vr34, opS, fpS, okP, pack, nAl, allocA, shId, leaves, fillA, fillR, splice, Nat.reduceLT, Nat.reduceEqDiff, Nat.reduceLeDiff, Nat.reduceAdd, Nat.reduceSub, Nat.reduceMul, Int.reduceBEq, Int.reduceBNe, Int.reduceLT, Int.reduceLE, Int.reduceEq, reduceIte, reduceCtorEq, da, int, boolA]
    | true =>
      simp only [↓vp, vq0, vq1, vq2, vq3, vr0, vr1, vr2, vr3, vr4, vr5, vr6, vr7, vr8, vr9, vr10, vr11, vr12, vr13, vr14, vr15, vr16, vr17, vr18, vr19, vr20, vr21, vr22, vr23, vr24, vr25, vr26, vr27, vr28, vr29, vr30, vr31, vr32, vr33, vr34, opS, fpS, okP, pack, nAl, allocA, shId, leaves, fillA, fillR, splice, Nat.reduceLT, Nat.reduceEqDiff, Nat.reduceLeDiff, Nat.reduceAdd, Nat.reduceSub, Nat.reduceMul, Int.reduceBEq, Int.reduceBNe, Int.reduceLT, Int.reduceLE, Int.reduceEq, reduceIte, reduceCtorEq, da, int, boolA, h1, h2, h15, h16, h17, g, atK gi, cK gi, atK gj, cK gj, k95, o1, o2, sameK_eq, e1, w1]
      rw [← hx_nil (hx K _)]
      refine ih (i + 1) _ _ (by omega) (by rw [hc, e1, Bool.true_and]) ?_ ?_ ?_ ?_ ?_ <;> simp only [↓vp, vq0, vq1, vq2, vq3, vr0, vr1, vr2, vr3, vr4, vr5, vr6, vr7, vr8, vr9, vr10, vr11, vr12, vr13, vr14, vr15, vr16, vr17, vr18, vr19, vr20, vr21, vr22, vr23, vr24, vr25, vr26, vr27, vr28, vr29, vr30, vr31, vr32, vr33, vr34, opS, fpS, okP, pack, nAl, allocA, shId, leaves, fillA, fillR, splice, Nat.reduceLT, Nat.reduceEqDiff, Nat.reduceLeDiff, Nat.reduceAdd, Nat.reduceSub, Nat.reduceMul, Int.reduceBEq, Int.reduceBNe, Int.reduceLT, Int.reduceLE, Int.reduceEq, reduceIte, reduceCtorEq, da, int, boolA, h1, h2, h15, h16]
theorem s98 (a b : List KidM) (ha : okK a) (hb : okK b) (H : Heap) : callL ft (.fn (.func 98) [] []) [encK a, encK b, .fn (.func 95) [] []] H = some (boolA (a.length == b.length && sameKs a b), H) := by
  refine call_p (as' := [encK a, encK b, .fn (.func 95) [] []]) rfl rfl (by simp) ?_
  unfold c98 r98
  cases e : a.length == b.length with
  | false =>
    have e' : ((a.length : Int) != b.length) = true := by
      have : a.length ≠ b.length := by simpa using e
      simp; omega
    simp only [↓vp, vq0, vq1, vq2, vq3, vr0, vr1, vr2, vr3, vr4, vr5, vr6, vr7, vr8, vr9, vr10, vr11, vr12, vr13, vr14, vr15, vr16, vr17, vr18, vr19, vr20, vr21, vr22, vr23, vr24, vr25, vr26, vr27, vr28, vr29, vr30, vr31, vr32, vr33, vr34, opS, fpS, okP, pack, nAl, allocA, shId, leaves, fillA, fillR, splice, Nat.reduceLT, Nat.reduceEqDiff, Nat.reduceLeDiff, Nat.reduceAdd, Nat.reduceSub, Nat.reduceMul, Int.reduceBEq, Int.reduceBNe, Int.reduceLT, Int.reduceLE, Int.reduceEq, reduceIte, reduceCtorEq, da, int, boolA, RetP_go, resT, resC, resN, retV1, retV2, retV3, retV0, frzFZ, takeM, Option.some.injEq, e', Bool.false_and]
  | true =>
    have h2 : a.length = b.length := by simpa using e
    have e' : ((a.length : Int) != b.length) = false := by simp; omega
    simp only [↓vp, vq0, vq1, vq2, vq3, vr0, vr1, vr2, vr3, vr4, vr5, vr6, vr7, vr8, vr9, vr10, vr11, vr12, vr13, vr14, vr15, vr16, vr17, vr18, vr19, vr20, vr21, vr22, vr23, vr24, vr25, vr26, vr27, vr28, vr29, vr30, vr31, vr32, vr33, vr34, opS, fpS, okP, pack, nAl, allocA, shId, leaves, fillA, fillR, splice, Nat.reduceLT, Nat.reduceEqDiff, Nat.reduceLeDiff, Nat.reduceAdd, Nat.reduceSub, Nat.reduceMul, Int.reduceBEq, Int.reduceBNe, Int.reduceLT, Int.reduceLE, Int.reduceEq, reduceIte, reduceCtorEq, da, int, boolA, e']
    refine l98 a b ha hb h2 (fun f' K' hs => ?_) (fun f' K' hs h6 => ?_) a.length 0 _ _ (by omega) rfl ?_ ?_ ?_ ?_ ?_
    · unfold c98R1
      simp only [↓vp, vq0, vq1, vq2, vq3, vr0, vr1, vr2, vr3, vr4, vr5, vr6, vr7, vr8, vr9, vr10, vr11, vr12, vr13, vr14, vr15, vr16, vr17, vr18, vr19, vr20, vr21, vr22, vr23, vr24, vr25, vr26, vr27, vr28, vr29, vr30, vr31, vr32, vr33, vr34, opS, fpS, okP, pack, nAl, allocA, shId, leaves, fillA, fillR, splice, Nat.reduceLT, Nat.reduceEqDiff, Nat.reduceLeDiff, Nat.reduceAdd, Nat.reduceSub, Nat.reduceMul, Int.reduceBEq, Int.reduceBNe, Int.reduceLT, Int.reduceLE, Int.reduceEq, reduceIte, reduceCtorEq, da, int, boolA, RetP_go, resT, resC, resN, retV1, retV2, retV3, retV0, frzFZ, takeM, Option.some.injEq, hs, Bool.true_and]
    · simp only [↓vp, vq0, vq1, vq2, vq3, vr0, vr1, vr2, vr3, vr4, vr5, vr6, vr7, vr8, vr9, vr10, vr11, vr12, vr13, vr14, vr15, vr16, vr17, vr18, vr19, vr20, vr21, vr22, vr23, vr24, vr25, vr26, vr27, vr28, vr29, vr30, vr31, vr32, vr33, vr34, opS, fpS, okP, pack, nAl, allocA, shId, leaves, fillA, fillR, splice, Nat.reduceLT, Nat.reduceEqDiff, Nat.reduceLeDiff, Nat.reduceAdd, Nat.reduceSub, Nat.reduceMul, Int.reduceBEq, Int.reduceBNe, Int.reduceLT, Int.reduceLE, Int.reduceEq, reduceIte, reduceCtorEq, da, int, boolA, RetP_go, resT, resC, resN, retV1, retV2, retV3, retV0, frzFZ, takeM, Option.some.injEq, hs, h6, Bool.and_false]
    all_goals first | rfl | (simp only [↓vp, vq0, vq1, vq2, vq3, vr0, vr1, vr2, vr3, vr4, vr5, vr6, vr7, vr8, vr9, vr10, vr11, vr12, vr13, vr14, vr15, vr16, vr17, vr18, vr19, vr20, vr21, vr22, vr23, vr24, vr25, vr26, vr27, vr28, vr29, vr30, vr31, vr32, vr33, vr34, opS, fpS, okP, pack, nAl, allocA, shId, leaves, fillA, fillR, splice, Nat.reduceLT, Nat.reduceEqDiff, Nat.reduceLeDiff, Nat.reduceAdd, Nat.reduceSub, Nat.reduceMul, Int.reduceBEq, Int.reduceBNe, Int.reduceLT, Int.reduceLE, Int.reduceEq, reduceIte, reduceCtorEq, da, int, boolA]; done)
theorem k98 {a b : List KidM} (ha : okK a) (hb : okK b) {K : Heap} {L : List Blk} {Q : AV → Heap → Prop} : KW ft (.fn (.func 98) [] []) [encK a, encK b, .fn (.func 95) [] []] (hx K L) Q ↔ Q (boolA (a.length == b.length && sameKs a b)) (hx K L) := KW_of (s98 a b ha hb _)
theorem s28 (a b : NodeM) (ha : okN a) (hb : okN b) (H : Heap) : callL ft (.fn (.func 28) [] []) [.agg (nodeC a), .agg (nodeC b)] H = some (boolA (sameN a b), H) := by
  refine call_p (as' := [.agg (nodeC a), .agg (nodeC b)]) rfl rfl (by simp) ?_
  unfold c28 r28
  have h1 := ha.i
  have h2 := ha.k
  have h3 := hb.i
  have h4 := hb.k
  have e : sameN a b = (a.leaf == b.leaf && (a.items.length == b.items.length && sameIs a.items b.items) && (a.kids.length == b.kids.length && sameKs a.kids b.kids)) := by
    unfold sameN
    cases a.leaf == b.leaf <;> cases a.items.length == b.items.length <;> cases sameIs a.items b.items <;> cases a.kids.length == b.kids.length <;> cases sameKs a.kids b.kids <;> rfl
  rw [e]
  cases e1 : a.leaf == b.leaf with
  | false => simp only [↓vp, vq0, vq1, vq2, vq3, vr0, vr1, vr2, vr3, vr4, vr5, vr6, vr7, vr8, vr9, vr10, vr11, vr12, vr13, vr14, vr15, vr16, vr17, vr18, vr19, vr20, vr21, vr22, vr23, vr24, vr25, vr26, vr27, vr28, vr29, vr30, vr31, vr32, vr33, vr34, opS, fpS, okP, pack, nAl, allocA, shId, leaves, fillA, fillR, splice, Nat.reduceLT, Nat.reduceEqDiff, Nat.reduceLeDiff, Nat.reduceAdd, Nat.reduceSub, Nat.reduceMul, Int.reduceBEq, Int.reduceBNe, Int.reduceLT, Int.reduceLE, Int.reduceEq, reduceIte, reduceCtorEq, da, int, boolA, RetP_go, resT, resC, resN, retV1, retV2, retV3, retV0, frzFZ, takeM, Option.some.injEq, nodeC, e1, Bool.false_and]
  | true =>
    cases e2 : a.items.length == b.items.length && sameIs a.items b.items with
    | false => simp only [↓vp, vq0, vq1, vq2, vq3, vr0, vr1, vr2, vr3, vr4, vr5, vr6, vr7, vr8, vr9, vr10, vr11, vr12, vr13, vr14, vr15, vr16, vr17, vr18, vr19, vr20, vr21, vr22, vr23, vr24, vr25, vr26, vr27, vr28, vr29, vr30, vr31, vr32, vr33, vr34, opS, fpS, okP, pack, nAl, allocA, shId, leaves, fillA, fillR, splice, Nat.reduceLT, Nat.reduceEqDiff, Nat.reduceLeDiff, Nat.reduceAdd, Nat.reduceSub, Nat.reduceMul, Int.reduceBEq, Int.reduceBNe, Int.reduceLT, Int.reduceLE, Int.reduceEq, reduceIte, reduceCtorEq, da, int, boolA, RetP_go, resT, resC, resN, retV1, retV2, retV3, retV0, frzFZ, takeM, Option.some.injEq, nodeC, e1, e2, k96, k98, h1, h2, h3, h4, Bool.false_and, Bool.true_and]
    | true => simp only [↓vp, vq0, vq1, vq2, vq3, vr0, vr1, vr2, vr3, vr4, vr5, vr6, vr7, vr8, vr9, vr10, vr11, vr12, vr13, vr14, vr15, vr16, vr17, vr18, vr19, vr20, vr21, vr22, vr23, vr24, vr25, vr26, vr27, vr28, vr29, vr30, vr31, vr32, vr33, vr34, opS, fpS, okP, pack, nAl, allocA, shId, leaves, fillA, fillR, splice, Nat.reduceLT, Nat.reduceEqDiff, Nat.reduceLeDiff, Nat.reduceAdd, Nat.reduceSub, Nat.reduceMul, Int.reduceBEq, Int.reduceBNe, Int.reduceLT, Int.reduceLE, Int.reduceEq, reduceIte, reduceCtorEq, da, int, boolA, RetP_go, resT, resC, resN, retV1, retV2, retV3, retV0, frzFZ, takeM, Option.some.injEq, nodeC, e1, e2, k96, k98, h1, h2, h3, h4, Bool.false_and, Bool.true_and]
end Go.VI

set_option linter.unusedVariables false
set_option linter.unusedSimpArgs false
set_option maxRecDepth 100000
namespace Go.VI
attribute [local congr] AW_congr OW_congr DW_congr NW_congr VW_congr GW_congr PW_congr KW_congr ite_congr' GV_congr CV_congr
def kill (K : Heap) : AV → Heap
  | .sl id _ _ => K.set id .dead
  | _ => K
theorem kill_next (K : Heap) (S : AV) : (kill K S).next = K.next := by
  unfold kill
  split
  · exact Heap.next_set _ _ _
  · rfl
theorem kill_get {K : Heap} {S : AV} {sz : Nat} {rows : List (List AV)} (h : Rep K sz S rows) {j : Nat} {b : Blk} (hj : K.get j = some b) (hb : ∀ r, b ≠ .row false sz r) : (kill K S).get j = some b := by
  rcases h with ⟨rfl, _⟩ | ⟨id, rfl, hr⟩
  · exact hj
  · have : j ≠ id := fun e => by
      subst e
      rw [hj] at hr
      exact hb _ (Option.some.inj hr)
    show (K.set id .dead).get j = _
    rw [Heap.get_set_ne _ this, hj]
theorem appA_rep {K : Heap} {S : AV} {sz bytes nid : Nat} {rows : List (List AV)} (h : Rep K sz S rows) {xs : List (List AV)} (h0 : xs ≠ []) (hs : allSz sz xs = true) (hb : (rows.length + xs.length) * bytes ≤ 140737488355328) (L : List Blk) :
    appA nid (hx K L) sz bytes S xs = some (.sl nid 0 (rows.length + xs.length), (hx (kill K S) L).put nid (.row false sz (rows ++ xs))) := by
  have hl : xs.length ≠ 0 := fun e => h0 (List.eq_nil_of_length_eq_zero e)
  rcases h with ⟨rfl, rfl⟩ | ⟨id, rfl, hr⟩
  · rw [appA_nil, if_neg hl, if_pos ⟨by simpa using hb, hs⟩]
    simp [kill]
  · have lid := Heap.get_lt hr
    rw [appA_sl, hx_get_old K L id lid, hr]
    simp only
    rw [if_pos ⟨by trivial, by omega, hb, hs⟩, if_neg (by omega), hx_set_old K L _ id lid, List.drop_zero, List.take_of_length_le (Nat.le_refl _)]
    rfl
theorem kill_old {K : Heap} {S : AV} {sz : Nat} {rows : List (List AV)} (h : Rep K sz S rows) {j : Nat} {b : Blk} (hj : K.get j = some b) (hb : ∀ r, b ≠ .row false sz r) (L : List Blk) : (hx (kill K S) L).get j = some b := by
  rw [hx_get_old _ _ _ (by rw [kill_next]; exact Heap.get_lt hj)]
  exact kill_get h hj hb
theorem get_old {K : Heap} {j : Nat} {b : Blk} (hj : K.get j = some b) (L : List Blk) : (hx K L).get j = some b := by
  rw [hx_get_old _ _ _ (Heap.get_lt hj), hj]
/-- Nothing below a number has changed. -/
def Stay (B : Nat) (H H' : Heap) : Prop := H.next ≤ H'.next ∧ ∀ j, j < B → H'.get j = H.get j
theorem Stay.rfl' {B : Nat} {H : Heap} : Stay B H H := ⟨Nat.le_refl _, fun _ _ => rfl⟩
theorem Stay.trans {B : Nat} {H H' H'' : Heap} (h : Stay B H H') (h' : Stay B H' H'') : Stay B H H'' := ⟨Nat.le_trans h.1 h'.1, fun j hj => (h'.2 j hj).trans (h.2 j hj)⟩
theorem Stay.hx {B : Nat} {H : Heap} (L : List Blk) (h : B ≤ H.next) : Stay B H (hx H L) := ⟨by rw [hx_next]; omega, fun j hj => hx_get_old _ _ _ (by omega)⟩
theorem Stay.set {B : Nat} {H : Heap} {id : Nat} (b : Blk) (h : B ≤ id) : Stay B H (H.set id b) := ⟨by rw [Heap.next_set]; exact Nat.le_refl _, fun j hj => Heap.get_set_ne _ (by omega)⟩
/-- A slice that was made from a number on. -/
def RepB (B : Nat) (K : Heap) (sz : Nat) (S : AV) (rows : List (List AV)) : Prop := (S = .sc (.slice none 0 0) ∧ rows = []) ∨ ∃ id, B ≤ id ∧ S = .sl id 0 rows.length ∧ K.get id = some (.row false sz rows)
theorem RepB.rep {B : Nat} {K : Heap} {sz : Nat} {S : AV} {rows : List (List AV)} (h : RepB B K sz S rows) : Rep K sz S rows := by
  rcases h with h | ⟨id, _, h1, h2⟩
  · exact .inl h
  · exact .inr ⟨id, h1, h2⟩
theorem RepB.kill {B : Nat} {K : Heap} {sz : Nat} {S : AV} {rows : List (List AV)} (h : RepB B K sz S rows) : Stay B K (kill K S) := by
  rcases h with ⟨rfl, _⟩ | ⟨id, hb, rfl, _⟩
  · exact .rfl'
  · exact .set _ hb
theorem RepB.mono {B : Nat} {K K' : Heap} {sz : Nat} {S : AV} {rows : List (List AV)} (h : RepB B K sz S rows) (hk : ∀ id, B ≤ id → K.get id = some (.row false sz rows) → K'.get id = some (.row false sz rows)) : RepB B K' sz S rows := by
  rcases h with h | ⟨id, hb, h1, h2⟩
  · exact .inl h
  · exact .inr ⟨id, hb, h1, hk id hb h2⟩
theorem rep_take {α : Type} (g : α → List AV) {l : List α} {i : Nat} (h : i < l.length) : (l.take (i + 1)).map g = (l.take i).map g ++ [g l[i]] := by
  rw [List.take_succ_eq_append_getElem h, List.map_append]; rfl
theorem frz_rep {K : Heap} {L : List Blk} {sz : Nat} {S : AV} {rows : List (List AV)} (h : Rep (hx K L) sz S rows) (n : Nat) : ∃ K', frz (n + 1) (hx K L) S = some (.lst rows, K') := by
  rcases h with ⟨rfl, rfl⟩ | ⟨id, rfl, h⟩
  · exact ⟨_, rfl⟩
  · refine ⟨(hx K L).set id (.row true sz rows), ?_⟩
    rw [frz_sl, h]
    simp
def intC (n : Int) : List AV := [int n]
def encZ (l : List Int) : AV := .lst (l.map intC)
theorem lenZ {H : Heap} (l : List Int) : lenV H 0 (encZ l) = some (.sc (.int .i64 (l.length : Int)), H) := by simp [lenV, lenOfA, encZ]
theorem atZ {H : Heap} {l : List Int} {i : Nat} (h : i < l.length) : iaddrA H none 1 (encZ l) (i : Int) = some (.pim (l.map intC) i 0) := iaddr_map h (fun _ => rfl)
theorem cZ {H : Heap} {l : List Int} {i off n : Nat} (h : i < l.length) : cellsAt H (.pim (l.map intC) i off) n = if off + n ≤ 1 then some (((intC l[i]).drop off).take n) else none := cells_map h
theorem one_Z (l : List Int) : (encZ l).one = true := rfl
theorem cs_Z (l : List Int) : (encZ l).cells = [encZ l] := rfl
def roomsM (g : Int) (n : NodeM) : List Int := if n.leaf then n.items.map (roomI g) else n.kids.map fun x => roomK g x.key
theorem l83a (g : Int) (n : NodeM) (hn : okN n) (hs : n.items.length ≤ 1000) {Q : AExit → Env → Heap → Prop}
   (hex : ∀ f' K S, Rep K 1 S ((n.items.map (roomI g)).map intC) → f' 5 = S → Q (.exit 0) (mkE 43 f') (hx K [])) :
   ∀ (d i : Nat) (S : AV) (K : Heap) (f : Nat → AV), i + d = n.items.length → Rep K 1 S (((n.items.take i).map (roomI g)).map intC) → f 1 = int g → f 5 = S → f 13 = encI n.items → f 14 = int n.items.length → f 15 = int i →
    AW ft (.loop c83L0) (mkE 43 f) (hx K []) Q := by
  intro d
  induction d with
  | zero =>
    intro i S K f hd hr h1 h5 h13 h14 h15
    have g : ((i : Int) < n.items.length) = False := by simp; omega
    rw [AW_loop]
    unfold c83L0
    rw [List.take_of_length_le (by omega)] at hr
    simp only [↓vp, vq0, vq1, vq2, vq3, vr0, vr1, vr2, vr3, vr4, vr5, vr6, vr7, vr8, vr9, vr10, vr11, vr12, vr13, vr14, vr15, vr16, vr17, vr18, vr19, vr20, vr21, vr22, vr23, vr24, vr25, vr26, vr27, vr28, vr29, vr30, vr31, vr32, vr33, vr34, opS, fpS, okP, pack, nAl, allocA, shId, leaves, fillA, fillR, splice, Nat.reduceLT, Nat.reduceEqDiff, Nat.reduceLeDiff, Nat.reduceAdd, Nat.reduceSub, Nat.reduceMul, Int.reduceBEq, Int.reduceBNe, Int.reduceLT, Int.reduceLE, Int.reduceEq, reduceIte, reduceCtorEq, da, int, boolA, h14, h15, g]
    refine hex _ K S hr ?_
    simp only [↓vp, vq0, vq1, vq2, vq3, vr0, vr1, vr2, vr3, vr4, vr5, vr6, vr7, vr8, vr9, vr10, vr11, vr12, vr13, vr14, vr15, vr16, vr17, vr18, vr19, vr20, vr21, vr22, vr23, vr24, vr25, vr26, vr27, vr28, vr29, vr30, vr31, vr32, vr33, vr34, opS, fpS, okP, pack, nAl, allocA, shId, leaves, fillA, fillR, splice, Nat.reduceLT, Nat.reduceEqDiff, Nat.reduceLeDiff, Nat.reduceAdd, Nat.reduceSub, Nat.reduceMul, Int.reduceBEq, Int.reduceBNe, Int.reduceLT, Int.reduceLE, Int.reduceEq, reduceIte, reduceCtorEq, da, int, boolA, h5]
  | succ d ih =>
    intro i S K f hd hr h1 h5 h13 h14 h15
    have g1 : ((i : Int) < n.items.length) = True := by simp; omega
    have gi : i < n.items.length := by omega
    have w1 := wrap_succ (show i < 9223372036854775807 by omega)
    have hh := (hn.i.at_ gi)
    have kk := fun K L Q => @k143 g _ hh K L Q
    simp only [itemC, kidC, int] at kk
    have ht : (((n.items.take (i + 1)).map (roomI g)).map intC) = (((n.items.take i).map (roomI g)).map intC) ++ [intC (roomI g n.items[i])] := by
      rw [List.take_succ_eq_append_getElem gi, List.map_append, List.map_append]; rfl
    have hlen : (((n.items.take i).map (roomI g)).map intC).length = i := by simp; omega
    have ap := fun nid L => appA_rep (nid := nid) (bytes := 8) hr (xs := [intC (roomI g n.items[i])]) (by simp) rfl (by rw [hlen]; simp; omega) L
    rw [hlen] at ap
    simp only [intC, int, List.length_singleton] at ap
    rw [AW_loop]
    unfold c83L0
    simp only [↓vp, vq0, vq1, vq2, vq3, vr0, vr1, vr2, vr3, vr4, vr5, vr6, vr7, vr8, vr9, vr10, vr11, vr12, vr13, vr14, vr15, vr16, vr17, vr18, vr19, vr20, vr21, vr22, vr23, vr24, vr25, vr26, vr27, vr28, vr29, vr30, vr31, vr32, vr33, vr34, opS, fpS, okP, pack, nAl, allocA, shId, leaves, fillA, fillR, splice, Nat.reduceLT, Nat.reduceEqDiff, Nat.reduceLeDiff, Nat.reduceAdd, Nat.reduceSub, Nat.reduceMul, Int.reduceBEq, Int.reduceBNe, Int.reduceLT, Int.reduceLE, Int.reduceEq, reduceIte, reduceCtorEq, da, int, boolA, h1, h5, h13, h14, h15, g1, atI gi, cI gi, itemC, kk, ap, kill_next, w1]
    rw [← hx_nil (hx _ _)]
    refine ih (i + 1) (.sl (K.next + 2) 0 (i + 1)) _ _ (by omega) (.inr ⟨K.next + 2, ?_, ?_⟩) ?_ ?_ ?_ ?_ ?_
    · rw [ht, List.length_append, hlen]
      rfl
    · rw [ht]
      simp only [↓vp, vq0, vq1, vq2, vq3, vr0, vr1, vr2, vr3, vr4, vr5, vr6, vr7, vr8, vr9, vr10, vr11, vr12, vr13, vr14, vr15, vr16, vr17, vr18, vr19, vr20, vr21, vr22, vr23, vr24, vr25, vr26, vr27, vr28, vr29, vr30, vr31, vr32, vr33, vr34, opS, fpS, okP, pack, nAl, allocA, shId, leaves, fillA, fillR, splice, Nat.reduceLT, Nat.reduceEqDiff, Nat.reduceLeDiff, Nat.reduceAdd, Nat.reduceSub, Nat.reduceMul, Int.reduceBEq, Int.reduceBNe, Int.reduceLT, Int.reduceLE, Int.reduceEq, reduceIte, reduceCtorEq, kill_next]
      rfl
    all_goals simp only [↓vp, vq0, vq1, vq2, vq3, vr0, vr1, vr2, vr3, vr4, vr5, vr6, vr7, vr8, vr9, vr10, vr11, vr12, vr13, vr14, vr15, vr16, vr17, vr18, vr19, vr20, vr21, vr22, vr23, vr24, vr25, vr26, vr27, vr28, vr29, vr30, vr31, vr32, vr33, vr34, opS, fpS, okP, pack, nAl, allocA, shId, leaves, fillA, fillR, splice, Nat.reduceLT, Nat.reduceEqDiff, Nat.reduceLeDiff, Nat.reduceAdd, Nat.reduceSub, Nat.reduceMul, Int.reduceBEq, Int.reduceBNe, Int.reduceLT, Int.reduceLE, Int.reduceEq, reduceIte, reduceCtorEq, da, int, boolA, h1, h13, h14]
theorem l83b (g : Int) (n : NodeM) (hn : okN n) (hs : n.kids.length ≤ 1000) {Q : AExit → Env → Heap → Prop}
   (hex : ∀ f' K S, Rep K 1 S ((n.kids.map (fun x => roomK g x.key)).map intC) → f' 5 = S → Q (.exit 2) (mkE 43 f') (hx K [])) :
   ∀ (d i : Nat) (S : AV) (K : Heap) (f : Nat → AV), i + d = n.kids.length → Rep K 1 S (((n.kids.take i).map (fun x => roomK g x.key)).map intC) → f 1 = int g → f 5 = S → f 28 = encK n.kids → f 29 = int n.kids.length → f 30 = int i →
    AW ft (.loop c83L2) (mkE 43 f) (hx K []) Q := by
  intro d
  induction d with
  | zero =>
    intro i S K f hd hr h1 h5 h13 h14 h15
    have g : ((i : Int) < n.kids.length) = False := by simp; omega
    rw [AW_loop]
    unfold c83L2
    rw [List.take_of_length_le (by omega)] at hr
    simp only [↓vp, vq0, vq1, vq2, vq3, vr0, vr1, vr2, vr3, vr4, vr5, vr6, vr7, vr8, vr9, vr10, vr11, vr12, vr13, vr14, vr15, vr16, vr17, vr18, vr19, vr20, vr21, vr22, vr23, vr24, vr25, vr26, vr27, vr28, vr29, vr30, vr31, vr32, vr33, vr34, opS, fpS, okP, pack, nAl, allocA, shId, leaves, fillA, fillR, splice, Nat.reduceLT, Nat.reduceEqDiff, Nat.reduceLeDiff, Nat.reduceAdd, Nat.reduceSub, Nat.reduceMul, Int.reduceBEq, Int.reduceBNe, Int.reduceLT, Int.reduceLE, Int.reduceEq, reduceIte, reduceCtorEq, da, int, boolA, h14, h15, g]
    refine hex _ K S hr ?_
    simp only [↓vp, vq0, vq1, vq2, vq3, vr0, vr1, vr2, vr3, vr4, vr5, vr6, vr7, vr8, vr9, vr10, vr11, vr12, vr13, vr14, vr15, vr16, vr17, vr18, vr19, vr20, vr21, vr22, vr23, vr24, vr25, vr26, vr27, vr28, vr29, vr30, vr31, vr32, vr33, vr34, opS, fpS, okP, pack, nAl, allocA, shId, leaves, fillA, fillR, splice, Nat.reduceLT, Nat.reduceEqDiff, Nat.reduceLeDiff, Nat.reduceAdd, Nat.reduceSub, Nat.reduceMul, Int.reduceBEq, Int.reduceBNe, Int.reduceLT, Int.reduceLE, Int.reduceEq, reduceIte, reduceCtorEq, da, int, boolA, h5]
  | succ d ih =>
    intro i S K f hd hr h1 h5 h13 h14 h15
    have g1 : ((i : Int) < n.kids.length) = True := by simp; omega
    have gi : i < n.kids.length := by omega
    have w1 := wrap_succ (show i < 9223372036854775807 by omega)
    have hh := (hn.k.at_ gi)
    have kk := fun K L Q => @k144 g _ hh K L Q
    simp only [itemC, kidC, int] at kk
    have ht : (((n.kids.take (i + 1)).map (fun x => roomK g x.key)).map intC) = (((n.kids.take i).map (fun x => roomK g x.key)).map intC) ++ [intC (roomK g n.kids[i].key)] := by
      rw [List.take_succ_eq_append_getElem gi, List.map_append, List.map_append]; rfl
    have hlen : (((n.kids.take i).map (fun x => roomK g x.key)).map intC).length = i := by simp; omega
    have ap := fun nid L => appA_rep (nid := nid) (bytes := 8) hr (xs := [intC (roomK g n.kids[i].key)]) (by simp) rfl (by rw [hlen]; simp; omega) L
    rw [hlen] at ap
    simp only [intC, int, List.length_singleton] at ap
    rw [AW_loop]
    unfold c83L2
    simp only [↓vp, vq0, vq1, vq2, vq3, vr0, vr1, vr2, vr3, vr4, vr5, vr6, vr7, vr8, vr9, vr10, vr11, vr12, vr13, vr14, vr15, vr16, vr17, vr18, vr19, vr20, vr21, vr22, vr23, vr24, vr25, vr26, vr27, vr28, vr29, vr30, vr31, vr32, vr33, vr34, opS, fpS, okP, pack, nAl, allocA, shId, leaves, fillA, fillR, splice, Nat.reduceLT, Nat.reduceEqDiff, Nat.reduceLeDiff, Nat.reduceAdd, Nat.reduceSub, Nat.reduceMul, Int.reduceBEq, Int.reduceBNe, Int.reduceLT, Int.reduceLE, Int.reduceEq, reduceIte, reduceCtorEq, da, int, boolA, h1, h5, h13, h14, h15, g1, atK gi, cK gi, kidC, kk, ap, kill_next, w1]
    rw [← hx_nil (hx _ _)]
    refine ih (i + 1) (.sl (K.next + 2) 0 (i + 1)) _ _ (by omega) (.inr ⟨K.next + 2, ?_, ?_⟩) ?_ ?_ ?_ ?_ ?_
    · rw [ht, List.length_append, hlen]
      rfl
    · rw [ht]
      simp only [↓vp, vq0, vq1, vq2, vq3, vr0, vr1, vr2, vr3, vr4, vr5, vr6, vr7, vr8, vr9, vr10, vr11, vr12, vr13, vr14, vr15, vr16, vr17, vr18, vr19, vr20, vr21, vr22, vr23, vr24, vr25, vr26, vr27, vr28, vr29, vr30, vr31, vr32, vr33, vr34, opS, fpS, okP, pack, nAl, allocA, shId, leaves, fillA, fillR, splice, Nat.reduceLT, Nat.reduceEqDiff, Nat.reduceLeDiff, Nat.reduceAdd, Nat.reduceSub, Nat.reduceMul, Int.reduceBEq, Int.reduceBNe, Int.reduceLT, Int.reduceLE, Int.reduceEq, reduceIte, reduceCtorEq, kill_next]
      rfl
    all_goals simp only [↓vp, vq0, vq1, vq2, vq3, vr0, vr1, vr2, vr3, vr4, vr5, vr6, vr7, vr8, vr9, vr10, vr11, vr12, vr13, vr14, vr15, vr16, vr17, vr18, vr19, vr20, vr21, vr22, vr23, vr24, vr25, vr26, vr27, vr28, vr29, vr30, vr31, vr32, vr33, vr34, opS, fpS, okP, pack, nAl, allocA, shId, leaves, fillA, fillR, splice, Nat.reduceLT, Nat.reduceEqDiff, Nat.reduceLeDiff, Nat.reduceAdd, Nat.reduceSub, Nat.reduceMul, Int.reduceBEq, Int.reduceBNe, Int.reduceLT, Int.reduceLE, Int.reduceEq, reduceIte, reduceCtorEq, da, int, boolA, h1, h13, h14]
theorem s83 (g : Int) (n : NodeM) (hn : okN n) (h1 : n.items.length ≤ 1000) (h2 : n.kids.length ≤ 1000) (H : Heap) : callL ft (.fn (.func 83) [] []) [.agg (nodeC n), int g] H = some (encZ (roomsM g n), H) := by
  refine call_p (as' := [.agg (nodeC n), int g]) rfl rfl (by simp) ?_
  unfold c83 r83 roomsM
  cases e : n.leaf with
  | true =>
    simp only [↓vp, vq0, vq1, vq2, vq3, vr0, vr1, vr2, vr3, vr4, vr5, vr6, vr7, vr8, vr9, vr10, vr11, vr12, vr13, vr14, vr15, vr16, vr17, vr18, vr19, vr20, vr21, vr22, vr23, vr24, vr25, vr26, vr27, vr28, vr29, vr30, vr31, vr32, vr33, vr34, opS, fpS, okP, pack, nAl, allocA, shId, leaves, fillA, fillR, splice, Nat.reduceLT, Nat.reduceEqDiff, Nat.reduceLeDiff, Nat.reduceAdd, Nat.reduceSub, Nat.reduceMul, Int.reduceBEq, Int.reduceBNe, Int.reduceLT, Int.reduceLE, Int.reduceEq, reduceIte, reduceCtorEq, da, int, boolA, nodeC, e]
    rw [← hx_nil (hx _ _)]
    refine l83a g n hn h1 (fun f' K S hr q5 => ?_) n.items.length 0 (.sc (.slice none 0 0)) _ _ (by simp) (.inl ⟨rfl, by simp⟩) ?_ ?_ ?_ ?_ ?_
    · unfold c83R1
      obtain ⟨K', hK'⟩ := frz_rep (L := []) (by rw [hx_nil]; exact hr) 23
      simp only [↓vp, vq0, vq1, vq2, vq3, vr0, vr1, vr2, vr3, vr4, vr5, vr6, vr7, vr8, vr9, vr10, vr11, vr12, vr13, vr14, vr15, vr16, vr17, vr18, vr19, vr20, vr21, vr22, vr23, vr24, vr25, vr26, vr27, vr28, vr29, vr30, vr31, vr32, vr33, vr34, opS, fpS, okP, pack, nAl, allocA, shId, leaves, fillA, fillR, splice, Nat.reduceLT, Nat.reduceEqDiff, Nat.reduceLeDiff, Nat.reduceAdd, Nat.reduceSub, Nat.reduceMul, Int.reduceBEq, Int.reduceBNe, Int.reduceLT, Int.reduceLE, Int.reduceEq, reduceIte, reduceCtorEq, da, int, boolA, RetP_go, resT, resC, resN, retV1, retV2, retV3, retV0, frzFZ, takeM, Option.some.injEq, q5, hK']
      rfl
    all_goals first | rfl | (simp only [↓vp, vq0, vq1, vq2, vq3, vr0, vr1, vr2, vr3, vr4, vr5, vr6, vr7, vr8, vr9, vr10, vr11, vr12, vr13, vr14, vr15, vr16, vr17, vr18, vr19, vr20, vr21, vr22, vr23, vr24, vr25, vr26, vr27, vr28, vr29, vr30, vr31, vr32, vr33, vr34, opS, fpS, okP, pack, nAl, allocA, shId, leaves, fillA, fillR, splice, Nat.reduceLT, Nat.reduceEqDiff, Nat.reduceLeDiff, Nat.reduceAdd, Nat.reduceSub, Nat.reduceMul, Int.reduceBEq, Int.reduceBNe, Int.reduceLT, Int.reduceLE, Int.reduceEq, reduceIte, reduceCtorEq, da, int, boolA]; done)
  | false =>
    simp only [↓vp, vq0, vq1, vq2, vq3, vr0, vr1, vr2, vr3, vr4, vr5, vr6, vr7, vr8, vr9, vr10, vr11, vr12, vr13, vr14, vr15, vr16, vr17, vr18, vr19, vr20, vr21, vr22, vr23, vr24, vr25, vr26, vr27, vr28, vr29, vr30, vr31, vr32, vr33, vr34, opS, fpS, okP, pack, nAl, allocA, shId, leaves, fillA, fillR, splice, Nat.reduceLT, Nat.reduceEqDiff, Nat.reduceLeDiff, Nat.reduceAdd, Nat.reduceSub, Nat.reduceMul, Int.reduceBEq, Int.reduceBNe, Int.reduceLT, Int.reduceLE, Int.reduceEq, reduceIte, reduceCtorEq, da, int, boolA, nodeC, e, c83R4]
    rw [← hx_nil (hx _ _)]
    refine l83b g n hn h2 (fun f' K S hr q5 => ?_) n.kids.length 0 (.sc (.slice none 0 0)) _ _ (by simp) (.inl ⟨rfl, by simp⟩) ?_ ?_ ?_ ?_ ?_
    · unfold c83R3
      obtain ⟨K', hK'⟩ := frz_rep (L := []) (by rw [hx_nil]; exact hr) 23
      simp only [↓vp, vq0, vq1, vq2, vq3, vr0, vr1, vr2, vr3, vr4, vr5, vr6, vr7, vr8, vr9, vr10, vr11, vr12, vr13, vr14, vr15, vr16, vr17, vr18, vr19, vr20, vr21, vr22, vr23, vr24, vr25, vr26, vr27, vr28, vr29, vr30, vr31, vr32, vr33, vr34, opS, fpS, okP, pack, nAl, allocA, shId, leaves, fillA, fillR, splice, Nat.reduceLT, Nat.reduceEqDiff, Nat.reduceLeDiff, Nat.reduceAdd, Nat.reduceSub, Nat.reduceMul, Int.reduceBEq, Int.reduceBNe, Int.reduceLT, Int.reduceLE, Int.reduceEq, reduceIte, reduceCtorEq, da, int, boolA, RetP_go, resT, resC, resN, retV1, retV2, retV3, retV0, frzFZ, takeM, Option.some.injEq, q5, hK']
      rfl
    all_goals first | rfl | (simp only [↓vp, vq0, vq1, vq2, vq3, vr0, vr1, vr2, vr3, vr4, vr5, vr6, vr7, vr8, vr9, vr10, vr11, vr12, vr13, vr14, vr15, vr16, vr17, vr18, vr19, vr20, vr21, vr22, vr23, vr24, vr25, vr26, vr27, vr28, vr29, vr30, vr31, vr32, vr33, vr34, opS, fpS, okP, pack, nAl, allocA, shId, leaves, fillA, fillR, splice, Nat.reduceLT, Nat.reduceEqDiff, Nat.reduceLeDiff, Nat.reduceAdd, Nat.reduceSub, Nat.reduceMul, Int.reduceBEq, Int.reduceBNe, Int.reduceLT, Int.reduceLE, Int.reduceEq, reduceIte, reduceCtorEq, da, int, boolA]; done)
theorem k83 {g : Int} {n : NodeM} (hn : okN n) (h1 : n.items.length ≤ 1000) (h2 : n.kids.length ≤ 1000) {K : Heap} {L : List Blk} {Q : AV → Heap → Prop} : KW ft (.fn (.func 83) [] []) [.agg (nodeC n), int g] (hx K L) Q ↔ Q (encZ (roomsM g n)) (hx K L) := KW_of (s83 g n hn h1 h2 _)
def sumZ : List Int → Int
  | [] => 0
  | x :: r => x + sumZ r
theorem sumZ_app : ∀ a b : List Int, sumZ (a ++ b) = sumZ a + sumZ b
  | [], b => by simp [sumZ]
  | x :: a, b => by simp only [List.cons_append, sumZ, sumZ_app a b]; omega
def small (l : List Int) : Prop := ∀ x ∈ l, 0 ≤ x ∧ x ≤ 1000000000000000
theorem sumZ_small : ∀ {l : List Int}, small l → 0 ≤ sumZ l ∧ sumZ l ≤ l.length * 1000000000000000
  | [], _ => by simp [sumZ]
  | x :: r, h => by
    have h1 := h x (by simp)
    have h2 := sumZ_small (l := r) (fun y hy => h y (by simp [hy]))
    simp only [sumZ, List.length_cons]
    omega
theorem small.take {l : List Int} (h : small l) (n : Nat) : small (l.take n) := fun x hx => h x (List.mem_of_mem_take hx)
theorem roomI_small (g : Int) {x : ItemM} (h : okIt x) : 0 ≤ roomI g x ∧ roomI g x ≤ 1000000000000000 := by
  have b1 := h.k.n
  have b2 := h.v.n
  have b3 := idw_bound g
  unfold MX at b1 b2
  unfold roomI
  split
  · split <;> omega
  · omega
theorem roomK_small (g : Int) {k : Bytes} (h : okB k) : 0 ≤ roomK g k ∧ roomK g k ≤ 1000000000000000 := by
  have b1 := h.n
  have b3 := idw_bound g
  unfold MX at b1
  unfold roomK
  split <;> omega
theorem rooms_small (g : Int) {n : NodeM} (h : okN n) : small (roomsM g n) := by
  intro x hx
  unfold roomsM at hx
  split at hx
  · obtain ⟨y, hy, rfl⟩ := List.mem_map.1 hx
    exact roomI_small g (h.i.h y hy)
  · obtain ⟨y, hy, rfl⟩ := List.mem_map.1 hx
    exact roomK_small g (h.k.h y hy)
def roomM (g : Int) (n : NodeM) : Int := sumZ (roomsM g n)
theorem rooms_len (g : Int) {n : NodeM} (h1 : n.items.length ≤ 1000) (h2 : n.kids.length ≤ 1000) : (roomsM g n).length ≤ 1000 := by
  unfold roomsM
  split <;> simpa
theorem l80 (l : List Int) (hl : l.length ≤ 1000) (hs : small l) {Q : AExit → Env → Heap → Prop} (hex : ∀ f' K, f' 5 = int (sumZ l) → Q (.exit 0) (mkE 21 f') (hx K [])) :
   ∀ (d i : Nat) (K : Heap) (f : Nat → AV), i + d = l.length → f 5 = int (sumZ (l.take i)) → f 10 = encZ l → f 11 = int l.length → f 12 = int i →
    AW ft (.loop c80L0) (mkE 21 f) (hx K []) Q := by
  intro d
  induction d with
  | zero =>
    intro i K f hd h5 h10 h11 h12
    have g : ((i : Int) < l.length) = False := by simp; omega
    rw [AW_loop]
    unfold c80L0
    rw [List.take_of_length_le (by omega)] at h5
    simp only [↓vp, vq0, vq1, vq2, vq3, vr0, vr1, vr2, vr3, vr4, vr5, vr6, vr7, vr8, vr9, vr10, vr11, vr12, vr13, vr14, vr15, vr16, vr17, vr18, vr19, vr20, vr21, vr22, vr23, vr24, vr25, vr26, vr27, vr28, vr29, vr30, vr31, vr32, vr33, vr34, opS, fpS, okP, pack, nAl, allocA, shId, leaves, fillA, fillR, splice, Nat.reduceLT, Nat.reduceEqDiff, Nat.reduceLeDiff, Nat.reduceAdd, Nat.reduceSub, Nat.reduceMul, Int.reduceBEq, Int.reduceBNe, Int.reduceLT, Int.reduceLE, Int.reduceEq, reduceIte, reduceCtorEq, da, int, boolA, h11, h12, g]
    refine hex _ _ ?_
    simp only [↓vp, vq0, vq1, vq2, vq3, vr0, vr1, vr2, vr3, vr4, vr5, vr6, vr7, vr8, vr9, vr10, vr11, vr12, vr13, vr14, vr15, vr16, vr17, vr18, vr19, vr20, vr21, vr22, vr23, vr24, vr25, vr26, vr27, vr28, vr29, vr30, vr31, vr32, vr33, vr34, opS, fpS, okP, pack, nAl, allocA, shId, leaves, fillA, fillR, splice, Nat.reduceLT, Nat.reduceEqDiff, Nat.reduceLeDiff, Nat.reduceAdd, Nat.reduceSub, Nat.reduceMul, Int.reduceBEq, Int.reduceBNe, Int.reduceLT, Int.reduceLE, Int.reduceEq, reduceIte, reduceCtorEq, da, int, boolA, h5]
  | succ d ih =>
    intro i K f hd h5 h10 h11 h12
    have g : ((i : Int) < l.length) = True := by simp; omega
    have gi : i < l.length := by omega
    have w1 := wrap_succ (show i < 9223372036854775807 by omega)
    have e1 : sumZ (l.take (i + 1)) = sumZ (l.take i) + l[i] := by
      rw [List.take_succ_eq_append_getElem gi, sumZ_app]
      simp [sumZ]
    have b1 := sumZ_small (hs.take (i + 1))
    have b2 : (l.take (i + 1)).length ≤ 1000 := by simp; omega
    have w2 : IntKind.i64.wrap (sumZ (l.take i) + l[i]) = sumZ (l.take (i + 1)) := by rw [← e1, wrap_i64 (by omega)]
    rw [AW_loop]
    unfold c80L0
    simp only [↓vp, vq0, vq1, vq2, vq3, vr0, vr1, vr2, vr3, vr4, vr5, vr6, vr7, vr8, vr9, vr10, vr11, vr12, vr13, vr14, vr15, vr16, vr17, vr18, vr19, vr20, vr21, vr22, vr23, vr24, vr25, vr26, vr27, vr28, vr29, vr30, vr31, vr32, vr33, vr34, opS, fpS, okP, pack, nAl, allocA, shId, leaves, fillA, fillR, splice, Nat.reduceLT, Nat.reduceEqDiff, Nat.reduceLeDiff, Nat.reduceAdd, Nat.reduceSub, Nat.reduceMul, Int.reduceBEq, Int.reduceBNe, Int.reduceLT, Int.reduceLE, Int.reduceEq, reduceIte, reduceCtorEq, da, int, boolA, h5, h10, h11, h12, g, atZ gi, cZ gi, intC, w1, w2]
    refine ih (i + 1) _ _ (by omega) ?_ ?_ ?_ ?_ <;> simp only [↓vp, vq0, vq1, vq2, vq3, vr0, vr1, vr2, vr3, vr4, vr5, vr6, vr7, vr8, vr9, vr10, vr11, vr12, vr13, vr14, vr15, vr16, vr17, vr18, vr19, vr20, vr21, vr22, vr23, vr24, vr25, vr26, vr27, vr28, vr29, vr30, vr31, vr32, vr33, vr34, opS, fpS, okP, pack, nAl, allocA, shId, leaves, fillA, fillR, splice, Nat.reduceLT, Nat.reduceEqDiff, Nat.reduceLeDiff, Nat.reduceAdd, Nat.reduceSub, Nat.reduceMul, Int.reduceBEq, Int.reduceBNe, Int.reduceLT, Int.reduceLE, Int.reduceEq, reduceIte, reduceCtorEq, da, int, boolA, h10, h11]
theorem s80 (g : Int) (n : NodeM) (hn : okN n) (h1 : n.items.length ≤ 1000) (h2 : n.kids.length ≤ 1000) (H : Heap) : callL ft (.fn (.func 80) [] []) [int g, .agg (nodeC n)] H = some (int (roomM g n), H) := by
  refine call_p (as' := [int g, .agg (nodeC n)]) rfl rfl (by simp) ?_
  unfold c80 r80
  have kk := fun K L Q => @k83 g n hn h1 h2 K L Q
  simp only [int] at kk
  simp only [↓vp, vq0, vq1, vq2, vq3, vr0, vr1, vr2, vr3, vr4, vr5, vr6, vr7, vr8, vr9, vr10, vr11, vr12, vr13, vr14, vr15, vr16, vr17, vr18, vr19, vr20, vr21, vr22, vr23, vr24, vr25, vr26, vr27, vr28, vr29, vr30, vr31, vr32, vr33, vr34, opS, fpS, okP, pack, nAl, allocA, shId, leaves, fillA, fillR, splice, Nat.reduceLT, Nat.reduceEqDiff, Nat.reduceLeDiff, Nat.reduceAdd, Nat.reduceSub, Nat.reduceMul, Int.reduceBEq, Int.reduceBNe, Int.reduceLT, Int.reduceLE, Int.reduceEq, reduceIte, reduceCtorEq, da, int, boolA, kk, one_Z, cs_Z, lenZ]
  rw [← hx_nil (hx _ _)]
  refine l80 (roomsM g n) (rooms_len g h1 h2) (rooms_small g hn) (fun f' K q5 => ?_) (roomsM g n).length 0 _ _ (by simp) ?_ ?_ ?_ ?_
  · unfold c80R1
    simp only [↓vp, vq0, vq1, vq2, vq3, vr0, vr1, vr2, vr3, vr4, vr5, vr6, vr7, vr8, vr9, vr10, vr11, vr12, vr13, vr14, vr15, vr16, vr17, vr18, vr19, vr20, vr21, vr22, vr23, vr24, vr25, vr26, vr27, vr28, vr29, vr30, vr31, vr32, vr33, vr34, opS, fpS, okP, pack, nAl, allocA, shId, leaves, fillA, fillR, splice, Nat.reduceLT, Nat.reduceEqDiff, Nat.reduceLeDiff, Nat.reduceAdd, Nat.reduceSub, Nat.reduceMul, Int.reduceBEq, Int.reduceBNe, Int.reduceLT, Int.reduceLE, Int.reduceEq, reduceIte, reduceCtorEq, da, int, boolA, RetP_go, resT, resC, resN, retV1, retV2, retV3, retV0, frzFZ, takeM, Option.some.injEq, q5]
    rfl
  all_goals first | rfl | (simp only [↓vp, vq0, vq1, vq2, vq3, vr0, vr1, vr2, vr3, vr4, vr5, vr6, vr7, vr8, vr9, vr10, vr11, vr12, vr13, vr14, vr15, vr16, vr17, vr18, vr19, vr20, vr21, vr22, vr23, vr24, vr25, vr26, vr27, vr28, vr29, vr30, vr31, vr32, vr33, vr34, opS, fpS, okP, pack, nAl, allocA, shId, leaves, fillA, fillR, splice, Nat.reduceLT, Nat.reduceEqDiff, Nat.reduceLeDiff, Nat.reduceAdd, Nat.reduceSub, Nat.reduceMul, Int.reduceBEq, Int.reduceBNe, Int.reduceLT, Int.reduceLE, Int.reduceEq, reduceIte, reduceCtorEq, da, int, boolA]; done)
theorem k80 {g : Int} {n : NodeM} (hn : okN n) (h1 : n.items.length ≤ 1000) (h2 : n.kids.length ≤ 1000) {K : Heap} {L : List Blk} {Q : AV → Heap → Prop} : KW ft (.fn (.func 80) [] []) [int g, .agg (nodeC n)] (hx K L) Q ↔ Q (int (roomM g n)) (hx K L) := KW_of (s80 g n hn h1 h2 _)
def fitsM (g : Int) (n : NodeM) : Bool := decide (roomM g n ≤ capG g)
theorem s26 (g : Int) (n : NodeM) (hn : okN n) (h1 : n.items.length ≤ 1000) (h2 : n.kids.length ≤ 1000) (H : Heap) : callL ft (.fn (.func 26) [] []) [int g, .agg (nodeC n)] H = some (boolA (fitsM g n), H) := by
  refine call_p (as' := [int g, .agg (nodeC n)]) rfl rfl (by simp) ?_
  unfold c26 r26
  have kk := fun K L Q => @k80 g n hn h1 h2 K L Q
  have k2 := fun g K L Q => @k90 g K L Q
  simp only [int] at kk k2
  simp only [↓vp, vq0, vq1, vq2, vq3, vr0, vr1, vr2, vr3, vr4, vr5, vr6, vr7, vr8, vr9, vr10, vr11, vr12, vr13, vr14, vr15, vr16, vr17, vr18, vr19, vr20, vr21, vr22, vr23, vr24, vr25, vr26, vr27, vr28, vr29, vr30, vr31, vr32, vr33, vr34, opS, fpS, okP, pack, nAl, allocA, shId, leaves, fillA, fillR, splice, Nat.reduceLT, Nat.reduceEqDiff, Nat.reduceLeDiff, Nat.reduceAdd, Nat.reduceSub, Nat.reduceMul, Int.reduceBEq, Int.reduceBNe, Int.reduceLT, Int.reduceLE, Int.reduceEq, reduceIte, reduceCtorEq, da, int, boolA, RetP_go, resT, resC, resN, retV1, retV2, retV3, retV0, frzFZ, takeM, Option.some.injEq, kk, k2]
  rfl
theorem k26 {g : Int} {n : NodeM} (hn : okN n) (h1 : n.items.length ≤ 1000) (h2 : n.kids.length ≤ 1000) {K : Heap} {L : List Blk} {Q : AV → Heap → Prop} : KW ft (.fn (.func 26) [] []) [int g, .agg (nodeC n)] (hx K L) Q ↔ Q (boolA (fitsM g n)) (hx K L) := KW_of (s26 g n hn h1 h2 _)
end Go.VI

set_option linter.unusedVariables false
set_option linter.unusedSimpArgs false
set_option maxRecDepth 100000
namespace Go.VI
attribute [local congr] AW_congr OW_congr DW_congr NW_congr VW_congr GW_congr PW_congr KW_congr ite_congr' GV_congr CV_congr
theorem k34 {n : NodeM} {K : Heap} {L : List Blk} {Q : AV → Heap → Prop} : KW ft (.fn (.func 34) [] []) [.agg (nodeC n)] (hx K L) Q ↔ Q (int (manyN n)) (hx K L) := KW_of (s34 n _)
theorem many_rooms (g : Int) (n : NodeM) : manyN n = ((roomsM g n).length : Nat) := by
  unfold manyN roomsM
  split <;> simp
theorem s104 (g : Int) (n : NodeM) (hn : okN n) (k : Nat) (hk : k < (roomsM g n).length) (H : Heap) : callL ft (.fn (.func 104) [] []) [int g, .agg (nodeC n), int k] H = some (int (roomsM g n)[k], H) := by
  refine call_p (as' := [int g, .agg (nodeC n), int k]) rfl rfl (by simp) ?_
  unfold c104 r104
  have k3 := fun g K L Q => @k157 g K L Q
  have p3 : pureV ft (.fn (.func 157) [] []) [.sc (.int .i64 g)] = some (false, []) := rfl
  simp only [int] at k3
  have hz : gen g = false → (roomsM g n)[k] = 0 := fun h => by
    unfold roomsM
    split <;> simp [roomI, roomK, h]
  by_cases g1 : g < 1
  · have h := (gen_iff g).1 (.inl g1)
    simp only [↓vp, vq0, vq1, vq2, vq3, vr0, vr1, vr2, vr3, vr4, vr5, vr6, vr7, vr8, vr9, vr10, vr11, vr12, vr13, vr14, vr15, vr16, vr17, vr18, vr19, vr20, vr21, vr22, vr23, vr24, vr25, vr26, vr27, vr28, vr29, vr30, vr31, vr32, vr33, vr34, opS, fpS, okP, pack, nAl, allocA, shId, leaves, fillA, fillR, splice, Nat.reduceLT, Nat.reduceEqDiff, Nat.reduceLeDiff, Nat.reduceAdd, Nat.reduceSub, Nat.reduceMul, Int.reduceBEq, Int.reduceBNe, Int.reduceLT, Int.reduceLE, Int.reduceEq, reduceIte, reduceCtorEq, da, int, boolA, RetP_go, resT, resC, resN, retV1, retV2, retV3, retV0, frzFZ, takeM, Option.some.injEq, g1, hz h]
  by_cases g2 : g > 3
  · have h := (gen_iff g).1 (.inr g2)
    simp only [↓vp, vq0, vq1, vq2, vq3, vr0, vr1, vr2, vr3, vr4, vr5, vr6, vr7, vr8, vr9, vr10, vr11, vr12, vr13, vr14, vr15, vr16, vr17, vr18, vr19, vr20, vr21, vr22, vr23, vr24, vr25, vr26, vr27, vr28, vr29, vr30, vr31, vr32, vr33, vr34, opS, fpS, okP, pack, nAl, allocA, shId, leaves, fillA, fillR, splice, Nat.reduceLT, Nat.reduceEqDiff, Nat.reduceLeDiff, Nat.reduceAdd, Nat.reduceSub, Nat.reduceMul, Int.reduceBEq, Int.reduceBNe, Int.reduceLT, Int.reduceLE, Int.reduceEq, reduceIte, reduceCtorEq, da, int, boolA, RetP_go, resT, resC, resN, retV1, retV2, retV3, retV0, frzFZ, takeM, Option.some.injEq, g1, g2, hz h]
  have h : gen g = true := by
    cases e : gen g with
    | true => rfl
    | false => exact absurd ((gen_iff g).2 e) (by omega)
  cases e : n.leaf with
  | true =>
    have gi : k < n.items.length := by
      unfold roomsM at hk
      rw [e] at hk
      simpa using hk
    have hr : (roomsM g n)[k] = roomI g n.items[k] := by simp [roomsM, e]
    have kk := fun K L Q => @k156 g _ (hn.i.at_ gi) K L Q
    simp only [int] at kk
    simp only [↓vp, vq0, vq1, vq2, vq3, vr0, vr1, vr2, vr3, vr4, vr5, vr6, vr7, vr8, vr9, vr10, vr11, vr12, vr13, vr14, vr15, vr16, vr17, vr18, vr19, vr20, vr21, vr22, vr23, vr24, vr25, vr26, vr27, vr28, vr29, vr30, vr31, vr32, vr33, vr34, opS, fpS, okP, pack, nAl, allocA, shId, leaves, fillA, fillR, splice, Nat.reduceLT, Nat.reduceEqDiff, Nat.reduceLeDiff, Nat.reduceAdd, Nat.reduceSub, Nat.reduceMul, Int.reduceBEq, Int.reduceBNe, Int.reduceLT, Int.reduceLE, Int.reduceEq, reduceIte, reduceCtorEq, da, int, boolA, RetP_go, resT, resC, resN, retV1, retV2, retV3, retV0, frzFZ, takeM, Option.some.injEq, g1, g2, e, atI gi, cI gi, kk, hr]
  | false =>
    have gi : k < n.kids.length := by
      unfold roomsM at hk
      rw [e] at hk
      simpa using hk
    have hr : (roomsM g n)[k] = 1 + n.kids[k].key.length + idw g := by simp [roomsM, e, roomK, h]
    have b1 := (hn.k.at_ gi).n
    have b3 := idw_bound g
    unfold MX at b1
    have w1 : IntKind.i64.wrap (1 + (n.kids[k].key.length : Int)) = 1 + n.kids[k].key.length := wrap_i64 (by omega)
    have w3 : IntKind.i64.wrap (1 + (n.kids[k].key.length : Int) + idw g) = 1 + n.kids[k].key.length + idw g := wrap_i64 (by omega)
    simp only [↓vp, vq0, vq1, vq2, vq3, vr0, vr1, vr2, vr3, vr4, vr5, vr6, vr7, vr8, vr9, vr10, vr11, vr12, vr13, vr14, vr15, vr16, vr17, vr18, vr19, vr20, vr21, vr22, vr23, vr24, vr25, vr26, vr27, vr28, vr29, vr30, vr31, vr32, vr33, vr34, opS, fpS, okP, pack, nAl, allocA, shId, leaves, fillA, fillR, splice, Nat.reduceLT, Nat.reduceEqDiff, Nat.reduceLeDiff, Nat.reduceAdd, Nat.reduceSub, Nat.reduceMul, Int.reduceBEq, Int.reduceBNe, Int.reduceLT, Int.reduceLE, Int.reduceEq, reduceIte, reduceCtorEq, da, int, boolA, RetP_go, resT, resC, resN, retV1, retV2, retV3, retV0, frzFZ, takeM, Option.some.injEq, g1, g2, e, atK gi, cK gi, k3, p3, w1, w3, hr]
    try rfl
theorem k104 {g : Int} {n : NodeM} (hn : okN n) {k : Nat} (hk : k < (roomsM g n).length) {K : Heap} {L : List Blk} {Q : AV → Heap → Prop} : KW ft (.fn (.func 104) [] []) [int g, .agg (nodeC n), int k] (hx K L) Q ↔ Q (int (roomsM g n)[k]) (hx K L) := KW_of (s104 g n hn k hk _)
theorem l33 (g : Int) (n : NodeM) (hn : okN n) (hl : (roomsM g n).length ≤ 1000) (many : Nat) (hm : many ≤ (roomsM g n).length) {L : List Blk} {Q : AExit → Env → Heap → Prop} (hL : L[0]? = some (.box false (nodeC n)))
   (hex : ∀ f', f' 7 = int (sumZ ((roomsM g n).take many)) → Q (.exit 0) (mkE 21 f') (hx Heap.empty L)) :
   ∀ (d i : Nat) (f : Nat → AV), i + d = many → f 0 = int g → f 2 = int many → f 4 = .ptr 0 0 0 → f 7 = int (sumZ ((roomsM g n).take i)) → f 8 = int i →
    AW ft (.loop c33L0) (mkE 21 f) (hx Heap.empty L) Q := by
  intro d
  induction d with
  | zero =>
    intro i f hd h0 h2 h4 h7 h8
    have g1 : ((i : Int) < (many : Int)) = False := by simp; omega
    rw [AW_loop]
    unfold c33L0
    simp only [↓vp, vq0, vq1, vq2, vq3, vr0, vr1, vr2, vr3, vr4, vr5, vr6, vr7, vr8, vr9, vr10, vr11, vr12, vr13, vr14, vr15, vr16, vr17, vr18, vr19, vr20, vr21, vr22, vr23, vr24, vr25, vr26, vr27, vr28, vr29, vr30, vr31, vr32, vr33, vr34, opS, fpS, okP, pack, nAl, allocA, shId, leaves, fillA, fillR, splice, Nat.reduceLT, Nat.reduceEqDiff, Nat.reduceLeDiff, Nat.reduceAdd, Nat.reduceSub, Nat.reduceMul, Int.reduceBEq, Int.reduceBNe, Int.reduceLT, Int.reduceLE, Int.reduceEq, reduceIte, reduceCtorEq, da, int, boolA, hL, h2, h8, g1]
    refine hex _ ?_
    simp only [↓vp, vq0, vq1, vq2, vq3, vr0, vr1, vr2, vr3, vr4, vr5, vr6, vr7, vr8, vr9, vr10, vr11, vr12, vr13, vr14, vr15, vr16, vr17, vr18, vr19, vr20, vr21, vr22, vr23, vr24, vr25, vr26, vr27, vr28, vr29, vr30, vr31, vr32, vr33, vr34, opS, fpS, okP, pack, nAl, allocA, shId, leaves, fillA, fillR, splice, Nat.reduceLT, Nat.reduceEqDiff, Nat.reduceLeDiff, Nat.reduceAdd, Nat.reduceSub, Nat.reduceMul, Int.reduceBEq, Int.reduceBNe, Int.reduceLT, Int.reduceLE, Int.reduceEq, reduceIte, reduceCtorEq, da, int, boolA, h7]
    rw [show i = many by omega]
  | succ d ih =>
    intro i f hd h0 h2 h4 h7 h8
    have g1 : ((i : Int) < (many : Int)) = True := by simp; omega
    have gi : i < (roomsM g n).length := by omega
    have w1 := wrap_succ (show i < 9223372036854775807 by omega)
    have e1 : sumZ ((roomsM g n).take (i + 1)) = sumZ ((roomsM g n).take i) + (roomsM g n)[i] := by
      rw [List.take_succ_eq_append_getElem gi, sumZ_app]
      simp [sumZ]
    have b1 := sumZ_small ((rooms_small g hn).take (i + 1))
    have b2 : ((roomsM g n).take (i + 1)).length ≤ 1000 := by simp; omega
    have w2 : IntKind.i64.wrap (sumZ ((roomsM g n).take i) + (roomsM g n)[i]) = sumZ ((roomsM g n).take (i + 1)) := by rw [← e1, wrap_i64 (by omega)]
    have kk := fun K L Q => @k104 g n hn i gi K L Q
    simp only [int] at kk
    rw [AW_loop]
    unfold c33L0
    simp only [↓vp, vq0, vq1, vq2, vq3, vr0, vr1, vr2, vr3, vr4, vr5, vr6, vr7, vr8, vr9, vr10, vr11, vr12, vr13, vr14, vr15, vr16, vr17, vr18, vr19, vr20, vr21, vr22, vr23, vr24, vr25, vr26, vr27, vr28, vr29, vr30, vr31, vr32, vr33, vr34, opS, fpS, okP, pack, nAl, allocA, shId, leaves, fillA, fillR, splice, Nat.reduceLT, Nat.reduceEqDiff, Nat.reduceLeDiff, Nat.reduceAdd, Nat.reduceSub, Nat.reduceMul, Int.reduceBEq, Int.reduceBNe, Int.reduceLT, Int.reduceLE, Int.reduceEq, reduceIte, reduceCtorEq, da, int, boolA, hL, h0, h2, h4, h7, h8, g1, kk, w1, w2]
    refine ih (i + 1) _ (by omega) ?_ ?_ ?_ ?_ ?_ <;> simp only [↓vp, vq0, vq1, vq2, vq3, vr0, vr1, vr2, vr3, vr4, vr5, vr6, vr7, vr8, vr9, vr10, vr11, vr12, vr13, vr14, vr15, vr16, vr17, vr18, vr19, vr20, vr21, vr22, vr23, vr24, vr25, vr26, vr27, vr28, vr29, vr30, vr31, vr32, vr33, vr34, opS, fpS, okP, pack, nAl, allocA, shId, leaves, fillA, fillR, splice, Nat.reduceLT, Nat.reduceEqDiff, Nat.reduceLeDiff, Nat.reduceAdd, Nat.reduceSub, Nat.reduceMul, Int.reduceBEq, Int.reduceBNe, Int.reduceLT, Int.reduceLE, Int.reduceEq, reduceIte, reduceCtorEq, da, int, boolA, h0, h2, h4]
theorem s33 (g : Int) (n : NodeM) (hn : okN n) (h1 : n.items.length ≤ 1000) (h2 : n.kids.length ≤ 1000) (many : Nat) (hm : many ≤ (roomsM g n).length) (H : Heap) : callL ft (.fn (.func 33) [] []) [int g, .agg (nodeC n), int many] H = some (int (sumZ ((roomsM g n).take many)), H) := by
  refine call_p (as' := [int g, .agg (nodeC n), int many]) rfl rfl (by simp) ?_
  unfold c33 r33
  simp only [↓vp, vq0, vq1, vq2, vq3, vr0, vr1, vr2, vr3, vr4, vr5, vr6, vr7, vr8, vr9, vr10, vr11, vr12, vr13, vr14, vr15, vr16, vr17, vr18, vr19, vr20, vr21, vr22, vr23, vr24, vr25, vr26, vr27, vr28, vr29, vr30, vr31, vr32, vr33, vr34, opS, fpS, okP, pack, nAl, allocA, shId, leaves, fillA, fillR, splice, Nat.reduceLT, Nat.reduceEqDiff, Nat.reduceLeDiff, Nat.reduceAdd, Nat.reduceSub, Nat.reduceMul, Int.reduceBEq, Int.reduceBNe, Int.reduceLT, Int.reduceLE, Int.reduceEq, reduceIte, reduceCtorEq, da, int, boolA]
  refine l33 g n hn (rooms_len g h1 h2) many hm rfl (fun f' q7 => ?_) many 0 _ (by simp) ?_ ?_ ?_ ?_ ?_
  · unfold c33R1
    simp only [↓vp, vq0, vq1, vq2, vq3, vr0, vr1, vr2, vr3, vr4, vr5, vr6, vr7, vr8, vr9, vr10, vr11, vr12, vr13, vr14, vr15, vr16, vr17, vr18, vr19, vr20, vr21, vr22, vr23, vr24, vr25, vr26, vr27, vr28, vr29, vr30, vr31, vr32, vr33, vr34, opS, fpS, okP, pack, nAl, allocA, shId, leaves, fillA, fillR, splice, Nat.reduceLT, Nat.reduceEqDiff, Nat.reduceLeDiff, Nat.reduceAdd, Nat.reduceSub, Nat.reduceMul, Int.reduceBEq, Int.reduceBNe, Int.reduceLT, Int.reduceLE, Int.reduceEq, reduceIte, reduceCtorEq, da, int, boolA, RetP_go, resT, resC, resN, retV1, retV2, retV3, retV0, frzFZ, takeM, Option.some.injEq, q7]
  all_goals first | rfl | (simp only [↓vp, vq0, vq1, vq2, vq3, vr0, vr1, vr2, vr3, vr4, vr5, vr6, vr7, vr8, vr9, vr10, vr11, vr12, vr13, vr14, vr15, vr16, vr17, vr18, vr19, vr20, vr21, vr22, vr23, vr24, vr25, vr26, vr27, vr28, vr29, vr30, vr31, vr32, vr33, vr34, opS, fpS, okP, pack, nAl, allocA, shId, leaves, fillA, fillR, splice, Nat.reduceLT, Nat.reduceEqDiff, Nat.reduceLeDiff, Nat.reduceAdd, Nat.reduceSub, Nat.reduceMul, Int.reduceBEq, Int.reduceBNe, Int.reduceLT, Int.reduceLE, Int.reduceEq, reduceIte, reduceCtorEq, da, int, boolA]; done)
theorem k33 {g : Int} {n : NodeM} (hn : okN n) (h1 : n.items.length ≤ 1000) (h2 : n.kids.length ≤ 1000) {many : Nat} (hm : many ≤ (roomsM g n).length) {K : Heap} {L : List Blk} {Q : AV → Heap → Prop} : KW ft (.fn (.func 33) [] []) [int g, .agg (nodeC n), int many] (hx K L) Q ↔ Q (int (sumZ ((roomsM g n).take many))) (hx K L) := KW_of (s33 g n hn h1 h2 many hm _)
theorem s86 (g : Int) (n : NodeM) (hn : okN n) (h1 : n.items.length ≤ 1000) (h2 : n.kids.length ≤ 1000) (H : Heap) : callL ft (.fn (.func 86) [] []) [int g, .agg (nodeC n)] H = some (boolA (fitsM g n), H) := by
  refine call_p (as' := [int g, .agg (nodeC n)]) rfl rfl (by simp) ?_
  unfold c86 r86
  have kk := fun K L Q => @k33 g n hn h1 h2 (roomsM g n).length (Nat.le_refl _) K L Q
  have k1 := fun K L Q => @k34 n K L Q
  have k2 := fun g K L Q => @k145 g K L Q
  have p2 : pureV ft (.fn (.func 145) [] []) [.sc (.int .i64 g)] = some (false, []) := rfl
  rw [List.take_length] at kk
  simp only [many_rooms g n] at k1
  simp only [int] at kk k1 k2
  simp only [↓vp, vq0, vq1, vq2, vq3, vr0, vr1, vr2, vr3, vr4, vr5, vr6, vr7, vr8, vr9, vr10, vr11, vr12, vr13, vr14, vr15, vr16, vr17, vr18, vr19, vr20, vr21, vr22, vr23, vr24, vr25, vr26, vr27, vr28, vr29, vr30, vr31, vr32, vr33, vr34, opS, fpS, okP, pack, nAl, allocA, shId, leaves, fillA, fillR, splice, Nat.reduceLT, Nat.reduceEqDiff, Nat.reduceLeDiff, Nat.reduceAdd, Nat.reduceSub, Nat.reduceMul, Int.reduceBEq, Int.reduceBNe, Int.reduceLT, Int.reduceLE, Int.reduceEq, reduceIte, reduceCtorEq, da, int, boolA, RetP_go, resT, resC, resN, retV1, retV2, retV3, retV0, frzFZ, takeM, Option.some.injEq, kk, k1, k2, p2]
  exact ⟨rfl, rfl⟩
theorem k86 {g : Int} {n : NodeM} (hn : okN n) (h1 : n.items.length ≤ 1000) (h2 : n.kids.length ≤ 1000) {K : Heap} {L : List Blk} {Q : AV → Heap → Prop} : KW ft (.fn (.func 86) [] []) [int g, .agg (nodeC n)] (hx K L) Q ↔ Q (boolA (fitsM g n)) (hx K L) := KW_of (s86 g n hn h1 h2 _)
end Go.VI
