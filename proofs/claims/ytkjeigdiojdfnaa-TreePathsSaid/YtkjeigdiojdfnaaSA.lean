/- VI, part SA: what data look like; Compare. -/
import Derived.Test.YtkjeigdiojdfnaaVZ
set_option linter.unusedVariables false
set_option linter.unusedSimpArgs false
set_option maxRecDepth 100000
namespace Go.VI
attribute [local congr] AW_congr OW_congr DW_congr NW_congr VW_congr GW_congr PW_congr KW_congr ite_congr' GV_congr CV_congr

/-! ### data -/
abbrev Bytes := List Int
structure ItemM where
  key : Bytes
  value : Bytes
  size : Int
  ref : Int
structure KidM where
  key : Bytes
  ref : Int
structure NodeM where
  leaf : Bool
  items : List ItemM
  kids : List KidM
structure NamedM where
  ref : Int
  n : NodeM
structure StepM where
  ref : Int
  n : NodeM
  k : Int
def MX : Nat := 140737488355328
def int (n : Int) : AV := .sc (.int .i64 n)
def boolA (b : Bool) : AV := .sc (.bool b)
def byteC (n : Int) : List AV := [.sc (.int .u8 n)]
def encB (l : Bytes) : AV := .lst (l.map byteC)
def itemC (x : ItemM) : List AV := [encB x.key, encB x.value, int x.size, int x.ref]
def encI (l : List ItemM) : AV := .lst (l.map itemC)
def kidC (x : KidM) : List AV := [encB x.key, int x.ref]
def encK (l : List KidM) : AV := .lst (l.map kidC)
def nodeC (n : NodeM) : List AV := [boolA n.leaf, encI n.items, encK n.kids]
def namedC (x : NamedM) : List AV := int x.ref :: nodeC x.n
def encL (l : List NamedM) : AV := .lst (l.map namedC)
def stepC (x : StepM) : List AV := [int x.ref, boolA x.n.leaf, encI x.n.items, encK x.n.kids, int x.k]
def encS (l : List StepM) : AV := .lst (l.map stepC)

section
variable {H : Heap} {K : Heap} {L : List Blk}
theorem len_byteC (n : Int) : (byteC n).length = 1 := rfl
theorem len_itemC (x : ItemM) : (itemC x).length = 4 := rfl
theorem len_kidC (x : KidM) : (kidC x).length = 2 := rfl
theorem len_namedC (x : NamedM) : (namedC x).length = 4 := rfl
theorem len_stepC (x : StepM) : (stepC x).length = 5 := rfl
theorem lenB (l : Bytes) : lenV H 0 (encB l) = some (.sc (.int .i64 (l.length : Int)), H) := by simp [lenV, lenOfA, encB]
theorem lenI (l : List ItemM) : lenV H 0 (encI l) = some (.sc (.int .i64 (l.length : Int)), H) := by simp [lenV, lenOfA, encI]
theorem lenK (l : List KidM) : lenV H 0 (encK l) = some (.sc (.int .i64 (l.length : Int)), H) := by simp [lenV, lenOfA, encK]
theorem lenL (l : List NamedM) : lenV H 0 (encL l) = some (.sc (.int .i64 (l.length : Int)), H) := by simp [lenV, lenOfA, encL]
theorem lenS (l : List StepM) : lenV H 0 (encS l) = some (.sc (.int .i64 (l.length : Int)), H) := by simp [lenV, lenOfA, encS]
theorem atB {l : Bytes} {i : Nat} (h : i < l.length) : iaddrA H none 1 (encB l) (i : Int) = some (.pim (l.map byteC) i 0) := iaddr_map h len_byteC
theorem atI {l : List ItemM} {i : Nat} (h : i < l.length) : iaddrA H none 4 (encI l) (i : Int) = some (.pim (l.map itemC) i 0) := iaddr_map h len_itemC
theorem atK {l : List KidM} {i : Nat} (h : i < l.length) : iaddrA H none 2 (encK l) (i : Int) = some (.pim (l.map kidC) i 0) := iaddr_map h len_kidC
theorem atL {l : List NamedM} {i : Nat} (h : i < l.length) : iaddrA H none 4 (encL l) (i : Int) = some (.pim (l.map namedC) i 0) := iaddr_map h len_namedC
theorem atS {l : List StepM} {i : Nat} (h : i < l.length) : iaddrA H none 5 (encS l) (i : Int) = some (.pim (l.map stepC) i 0) := iaddr_map h len_stepC
theorem cB {l : Bytes} {i off n : Nat} (h : i < l.length) : cellsAt H (.pim (l.map byteC) i off) n = if off + n ≤ 1 then some (((byteC l[i]).drop off).take n) else none := cells_map h
theorem cI {l : List ItemM} {i off n : Nat} (h : i < l.length) : cellsAt H (.pim (l.map itemC) i off) n = if off + n ≤ 4 then some (((itemC l[i]).drop off).take n) else none := cells_map h
theorem cK {l : List KidM} {i off n : Nat} (h : i < l.length) : cellsAt H (.pim (l.map kidC) i off) n = if off + n ≤ 2 then some (((kidC l[i]).drop off).take n) else none := cells_map h
theorem cL {l : List NamedM} {i off n : Nat} (h : i < l.length) : cellsAt H (.pim (l.map namedC) i off) n = if off + n ≤ 4 then some (((namedC l[i]).drop off).take n) else none := cells_map h
theorem cS {l : List StepM} {i off n : Nat} (h : i < l.length) : cellsAt H (.pim (l.map stepC) i off) n = if off + n ≤ 5 then some (((stepC l[i]).drop off).take n) else none := cells_map h
end

section
theorem zi (n : Nat) (H : Heap) (x : ItemM) : frz.frzL (n + 6) H (itemC x) = some (itemC x, H) := rfl
theorem zk (n : Nat) (H : Heap) (x : KidM) : frz.frzL (n + 4) H (kidC x) = some (kidC x, H) := rfl
theorem zn (n : Nat) (H : Heap) (x : NodeM) : frz.frzL (n + 5) H (nodeC x) = some (nodeC x, H) := rfl
theorem zm (n : Nat) (H : Heap) (x : NamedM) : frz.frzL (n + 6) H (namedC x) = some (namedC x, H) := rfl
theorem zs (n : Nat) (H : Heap) (x : StepM) : frz.frzL (n + 7) H (stepC x) = some (stepC x, H) := rfl
theorem fz_i (H : Heap) (x : ItemM) : frz.frzL 24 H (itemC x) = some (itemC x, H) := rfl
theorem fz_k (H : Heap) (x : KidM) : frz.frzL 24 H (kidC x) = some (kidC x, H) := rfl
theorem i_all (x : ItemM) : (itemC x).take 4 = itemC x := rfl
theorem i_0 (x : ItemM) : (itemC x).take 1 = [encB x.key] := rfl
theorem i_1 (x : ItemM) : ((itemC x).drop 1).take 1 = [encB x.value] := rfl
theorem i_2 (x : ItemM) : ((itemC x).drop 2).take 1 = [int x.size] := rfl
theorem i_3 (x : ItemM) : ((itemC x).drop 3).take 1 = [int x.ref] := rfl
theorem i_one (x : ItemM) : oneAll (itemC x) = true := rfl
theorem k_all (x : KidM) : (kidC x).take 2 = kidC x := rfl
theorem k_0 (x : KidM) : (kidC x).take 1 = [encB x.key] := rfl
theorem k_1 (x : KidM) : ((kidC x).drop 1).take 1 = [int x.ref] := rfl
theorem k_one (x : KidM) : oneAll (kidC x) = true := rfl
theorem n_all (x : NodeM) : (nodeC x).take 3 = nodeC x := rfl
theorem n_0 (x : NodeM) : (nodeC x).take 1 = [boolA x.leaf] := rfl
theorem n_1 (x : NodeM) : ((nodeC x).drop 1).take 1 = [encI x.items] := rfl
theorem n_2 (x : NodeM) : ((nodeC x).drop 2).take 1 = [encK x.kids] := rfl
theorem n_one (x : NodeM) : oneAll (nodeC x) = true := rfl
theorem len_nodeC (x : NodeM) : (nodeC x).length = 3 := rfl
theorem m_all (x : NamedM) : (namedC x).take 4 = namedC x := rfl
theorem m_0 (x : NamedM) : (namedC x).take 1 = [int x.ref] := rfl
theorem m_n (x : NamedM) : ((namedC x).drop 1).take 3 = nodeC x.n := rfl
theorem m_1 (x : NamedM) : ((namedC x).drop 1).take 1 = [boolA x.n.leaf] := rfl
theorem m_2 (x : NamedM) : ((namedC x).drop 2).take 1 = [encI x.n.items] := rfl
theorem m_3 (x : NamedM) : ((namedC x).drop 3).take 1 = [encK x.n.kids] := rfl
theorem m_one (x : NamedM) : oneAll (namedC x) = true := rfl
theorem s_all (x : StepM) : (stepC x).take 5 = stepC x := rfl
theorem s_0 (x : StepM) : (stepC x).take 1 = [int x.ref] := rfl
theorem s_n (x : StepM) : ((stepC x).drop 1).take 3 = nodeC x.n := rfl
theorem s_1 (x : StepM) : ((stepC x).drop 1).take 1 = [boolA x.n.leaf] := rfl
theorem s_2 (x : StepM) : ((stepC x).drop 2).take 1 = [encI x.n.items] := rfl
theorem s_3 (x : StepM) : ((stepC x).drop 3).take 1 = [encK x.n.kids] := rfl
theorem s_4 (x : StepM) : ((stepC x).drop 4).take 1 = [int x.k] := rfl
theorem s_one (x : StepM) : oneAll (stepC x) = true := rfl
theorem frz_B (n : Nat) (H : Heap) (l : Bytes) : frz (n + 1) H (encB l) = some (encB l, H) := rfl
theorem frz_I (n : Nat) (H : Heap) (l : List ItemM) : frz (n + 1) H (encI l) = some (encI l, H) := rfl
theorem frz_K (n : Nat) (H : Heap) (l : List KidM) : frz (n + 1) H (encK l) = some (encK l, H) := rfl
theorem frz_L (n : Nat) (H : Heap) (l : List NamedM) : frz (n + 1) H (encL l) = some (encL l, H) := rfl
theorem frz_S (n : Nat) (H : Heap) (l : List StepM) : frz (n + 1) H (encS l) = some (encS l, H) := rfl
theorem one_B (l : Bytes) : (encB l).one = true := rfl
theorem one_I (l : List ItemM) : (encI l).one = true := rfl
theorem one_K (l : List KidM) : (encK l).one = true := rfl
theorem one_L (l : List NamedM) : (encL l).one = true := rfl
theorem one_S (l : List StepM) : (encS l).one = true := rfl
theorem cs_B (l : Bytes) : (encB l).cells = [encB l] := rfl
theorem cs_I (l : List ItemM) : (encI l).cells = [encI l] := rfl
theorem cs_K (l : List KidM) : (encK l).cells = [encK l] := rfl
theorem cs_L (l : List NamedM) : (encL l).cells = [encL l] := rfl
theorem cs_S (l : List StepM) : (encS l).cells = [encS l] := rfl
set_option linter.defProp false
def da := (⟨@zi, @zk, @zn, @zm, @zs, @fz_i, @fz_k, @lenB, @lenI, @lenK, @lenL, @lenS, @i_all, @i_0, @i_1, @i_2, @i_3, @i_one, @k_all, @k_0, @k_1, @k_one, @n_all, @n_0, @n_1, @n_2, @n_one, @len_nodeC, @m_all, @m_0, @m_n, @m_1, @m_2, @m_3, @m_one, @s_all, @s_0, @s_n, @s_1, @s_2, @s_3, @s_4, @s_one, @len_itemC, @len_kidC, @len_namedC, @len_stepC, @frz_B, @frz_I, @frz_K, @frz_L, @frz_S, @one_B, @one_I, @one_K, @one_L, @one_S, @cs_B, @cs_I, @cs_K, @cs_L, @cs_S⟩ : _ ∧ _ ∧ _ ∧ _ ∧ _ ∧ _ ∧ _ ∧ _ ∧ _ ∧ _ ∧ _ ∧ _ ∧ _ ∧ _ ∧ _ ∧ _ ∧ _ ∧ _ ∧ _ ∧ _ ∧ _ ∧ _ ∧ _ ∧ _ ∧ _ ∧ _ ∧ _ ∧ _ ∧ _ ∧ _ ∧ _ ∧ _ ∧ _ ∧ _ ∧ _ ∧ _ ∧ _ ∧ _ ∧ _ ∧ _ ∧ _ ∧ _ ∧ _ ∧ _ ∧ _ ∧ _ ∧ _ ∧ _ ∧ _ ∧ _ ∧ _ ∧ _ ∧ _ ∧ _ ∧ _ ∧ _ ∧ _ ∧ _ ∧ _ ∧ _ ∧ _ ∧ _)
end

/-! ### Compare -/
theorem cmpB_end {a b : Bytes} {i : Nat} (h : a.length ≤ i ∨ b.length ≤ i) (hia : i ≤ a.length) (hib : i ≤ b.length) : cmpB (a.drop i) (b.drop i) = if a.length < b.length then -1 else if b.length < a.length then 1 else 0 := by
  by_cases ha : a.length = i
  · rw [List.drop_eq_nil_of_le (by omega)]
    by_cases hb : b.length = i
    · rw [List.drop_eq_nil_of_le (by omega), if_neg (by omega), if_neg (by omega)]
      rfl
    · rw [List.drop_eq_getElem_cons (by omega : i < b.length), if_pos (by omega)]
      rfl
  · have hb : b.length = i := by omega
    rw [List.drop_eq_nil_of_le (by omega : b.length ≤ i), List.drop_eq_getElem_cons (by omega : i < a.length), if_neg (by omega), if_pos (by omega)]
    rfl
theorem cmpB_step {a b : Bytes} {i : Nat} (ha : i < a.length) (hb : i < b.length) : cmpB (a.drop i) (b.drop i) = if a[i] < b[i] then -1 else if b[i] < a[i] then 1 else cmpB (a.drop (i + 1)) (b.drop (i + 1)) := by
  rw [List.drop_eq_getElem_cons ha, List.drop_eq_getElem_cons hb]
  rfl

theorem l25 (a b : Bytes) (ha : a.length < MX) (hb : b.length < MX) {H : Heap} {L : List Blk} {Q : AExit → Env → Heap → Prop}
   (hex : ∀ f', f' 0 = encB a → f' 1 = encB b → cmpB a b = (if a.length < b.length then -1 else if b.length < a.length then 1 else 0) → Q (.exit 0) (mkE 46 f') (hx H L))
   (hret : ∀ f', f' 4 = int (cmpB a b) → Q .ret (mkE 46 f') (hx H L)) : ∀ (d i : Nat) (f : Nat → AV), i + d = a.length → i ≤ b.length → cmpB a b = cmpB (a.drop i) (b.drop i) → f 0 = encB a → f 1 = encB b → f 5 = int i →
    AW ft (.loop c25L0) (mkE 46 f) (hx H L) Q := by
  intro d
  unfold MX at ha hb
  induction d with
  | zero =>
    intro i f hd hib hc h0 h1 h5
    have g : ((i : Int) < a.length) = False := by simp; omega
    rw [AW_loop]
    unfold c25L0
    simp only [↓vp, vq0, vq1, vq2, vq3, vr0, vr1, vr2, vr3, vr4, vr5, vr6, vr7, vr8, vr9, vr10, vr11, vr12, vr13, vr14, vr15, vr16, vr17, vr18, vr19, vr20, vr21, vr22, vr23, vr24, vr25, vr26, vr27, vr28, vr29, vr30, vr31, vr32, vr33, vr34, opS, fpS, okP, pack, nAl, allocA, shId, leaves, fillA, fillR, splice, Nat.reduceLT, Nat.reduceEqDiff, Nat.reduceLeDiff, Nat.reduceAdd, Nat.reduceSub, Nat.reduceMul, Int.reduceBEq, Int.reduceBNe, Int.reduceLT, Int.reduceLE, Int.reduceEq, reduceIte, reduceCtorEq, lenB, int, h0, h1, h5, g]
    exact hex _ h0 h1 (hc.trans (cmpB_end (by omega) (by omega) (by omega)))
  | succ d ih =>
    intro i f hd hib hc h0 h1 h5
    have g : ((i : Int) < a.length) = True := by simp; omega
    have gi : i < a.length := by omega
    rw [AW_loop]
    unfold c25L0
    by_cases hb' : i < b.length
    · have g2 : ((i : Int) < b.length) = True := by simp; omega
      have hs := cmpB_step gi hb'
      simp only [↓vp, vq0, vq1, vq2, vq3, vr0, vr1, vr2, vr3, vr4, vr5, vr6, vr7, vr8, vr9, vr10, vr11, vr12, vr13, vr14, vr15, vr16, vr17, vr18, vr19, vr20, vr21, vr22, vr23, vr24, vr25, vr26, vr27, vr28, vr29, vr30, vr31, vr32, vr33, vr34, opS, fpS, okP, pack, nAl, allocA, shId, leaves, fillA, fillR, splice, Nat.reduceLT, Nat.reduceEqDiff, Nat.reduceLeDiff, Nat.reduceAdd, Nat.reduceSub, Nat.reduceMul, Int.reduceBEq, Int.reduceBNe, Int.reduceLT, Int.reduceLE, Int.reduceEq, reduceIte, reduceCtorEq, lenB, int, h0, h1, h5, g, g2, atB gi, atB hb', cB gi, cB hb', byteC, wrap_succ (show i < 9223372036854775807 by omega)]
      split
      · rename_i hlt
        refine hret _ ?_
        simp only [↓vp, vq0, vq1, vq2, vq3, vr0, vr1, vr2, vr3, vr4, vr5, vr6, vr7, vr8, vr9, vr10, vr11, vr12, vr13, vr14, vr15, vr16, vr17, vr18, vr19, vr20, vr21, vr22, vr23, vr24, vr25, vr26, vr27, vr28, vr29, vr30, vr31, vr32, vr33, vr34, opS, fpS, okP, pack, nAl, allocA, shId, leaves, fillA, fillR, splice, Nat.reduceLT, Nat.reduceEqDiff, Nat.reduceLeDiff, Nat.reduceAdd, Nat.reduceSub, Nat.reduceMul, Int.reduceBEq, Int.reduceBNe, Int.reduceLT, Int.reduceLE, Int.reduceEq, reduceIte, reduceCtorEq]
        rw [hc, hs, if_pos hlt]
        rfl
      · rename_i hnl
        split
        · rename_i hgt
          refine hret _ ?_
          simp only [↓vp, vq0, vq1, vq2, vq3, vr0, vr1, vr2, vr3, vr4, vr5, vr6, vr7, vr8, vr9, vr10, vr11, vr12, vr13, vr14, vr15, vr16, vr17, vr18, vr19, vr20, vr21, vr22, vr23, vr24, vr25, vr26, vr27, vr28, vr29, vr30, vr31, vr32, vr33, vr34, opS, fpS, okP, pack, nAl, allocA, shId, leaves, fillA, fillR, splice, Nat.reduceLT, Nat.reduceEqDiff, Nat.reduceLeDiff, Nat.reduceAdd, Nat.reduceSub, Nat.reduceMul, Int.reduceBEq, Int.reduceBNe, Int.reduceLT, Int.reduceLE, Int.reduceEq, reduceIte, reduceCtorEq]
          rw [hc, hs, if_neg hnl, if_pos hgt]
          rfl
        · rename_i hng
          refine ih (i + 1) _ (by omega) (by omega) ?_ ?_ ?_ ?_
          · rw [hc, hs, if_neg hnl, if_neg hng]
          · simp only [↓vp, vq0, vq1, vq2, vq3, vr0, vr1, vr2, vr3, vr4, vr5, vr6, vr7, vr8, vr9, vr10, vr11, vr12, vr13, vr14, vr15, vr16, vr17, vr18, vr19, vr20, vr21, vr22, vr23, vr24, vr25, vr26, vr27, vr28, vr29, vr30, vr31, vr32, vr33, vr34, opS, fpS, okP, pack, nAl, allocA, shId, leaves, fillA, fillR, splice, Nat.reduceLT, Nat.reduceEqDiff, Nat.reduceLeDiff, Nat.reduceAdd, Nat.reduceSub, Nat.reduceMul, Int.reduceBEq, Int.reduceBNe, Int.reduceLT, Int.reduceLE, Int.reduceEq, reduceIte, reduceCtorEq, h0]
          · simp only [↓vp, vq0, vq1, vq2, vq3, vr0, vr1, vr2, vr3, vr4, vr5, vr6, vr7, vr8, vr9, vr10, vr11, vr12, vr13, vr14, vr15, vr16, vr17, vr18, vr19, vr20, vr21, vr22, vr23, vr24, vr25, vr26, vr27, vr28, vr29, vr30, vr31, vr32, vr33, vr34, opS, fpS, okP, pack, nAl, allocA, shId, leaves, fillA, fillR, splice, Nat.reduceLT, Nat.reduceEqDiff, Nat.reduceLeDiff, Nat.reduceAdd, Nat.reduceSub, Nat.reduceMul, Int.reduceBEq, Int.reduceBNe, Int.reduceLT, Int.reduceLE, Int.reduceEq, reduceIte, reduceCtorEq, h1]
          · simp only [↓vp, vq0, vq1, vq2, vq3, vr0, vr1, vr2, vr3, vr4, vr5, vr6, vr7, vr8, vr9, vr10, vr11, vr12, vr13, vr14, vr15, vr16, vr17, vr18, vr19, vr20, vr21, vr22, vr23, vr24, vr25, vr26, vr27, vr28, vr29, vr30, vr31, vr32, vr33, vr34, opS, fpS, okP, pack, nAl, allocA, shId, leaves, fillA, fillR, splice, Nat.reduceLT, Nat.reduceEqDiff, Nat.reduceLeDiff, Nat.reduceAdd, Nat.reduceSub, Nat.reduceMul, Int.reduceBEq, Int.reduceBNe, Int.reduceLT, Int.reduceLE, Int.reduceEq, reduceIte, reduceCtorEq, int]
    · have g2 : ((i : Int) < b.length) = False := by simp; omega
      simp only [↓vp, vq0, vq1, vq2, vq3, vr0, vr1, vr2, vr3, vr4, vr5, vr6, vr7, vr8, vr9, vr10, vr11, vr12, vr13, vr14, vr15, vr16, vr17, vr18, vr19, vr20, vr21, vr22, vr23, vr24, vr25, vr26, vr27, vr28, vr29, vr30, vr31, vr32, vr33, vr34, opS, fpS, okP, pack, nAl, allocA, shId, leaves, fillA, fillR, splice, Nat.reduceLT, Nat.reduceEqDiff, Nat.reduceLeDiff, Nat.reduceAdd, Nat.reduceSub, Nat.reduceMul, Int.reduceBEq, Int.reduceBNe, Int.reduceLT, Int.reduceLE, Int.reduceEq, reduceIte, reduceCtorEq, lenB, int, h0, h1, h5, g, g2]
      exact hex _ h0 h1 (hc.trans (cmpB_end (by omega) (by omega) (by omega)))

theorem s25 (a b : Bytes) (ha : a.length < MX) (hb : b.length < MX) (H : Heap) : callL ft (.fn (.func 25) [] []) [encB a, encB b] H = some (int (cmpB a b), H) := by
  refine call_p (as' := [encB a, encB b]) rfl rfl (by simp) ?_
  unfold c25
  simp only [↓vp, vq0, vq1, vq2, vq3, vr0, vr1, vr2, vr3, vr4, vr5, vr6, vr7, vr8, vr9, vr10, vr11, vr12, vr13, vr14, vr15, vr16, vr17, vr18, vr19, vr20, vr21, vr22, vr23, vr24, vr25, vr26, vr27, vr28, vr29, vr30, vr31, vr32, vr33, vr34, opS, fpS, okP, pack, nAl, allocA, shId, leaves, fillA, fillR, splice, Nat.reduceLT, Nat.reduceEqDiff, Nat.reduceLeDiff, Nat.reduceAdd, Nat.reduceSub, Nat.reduceMul, Int.reduceBEq, Int.reduceBNe, Int.reduceLT, Int.reduceLE, Int.reduceEq, reduceIte, reduceCtorEq]
  refine l25 a b ha hb (fun f' h0 h1 hc => ?_) (fun f' h4 => ?_) a.length 0 _ (by omega) (by omega) rfl ?_ ?_ ?_
  · unfold c25R1
    by_cases g1 : a.length < b.length
    · have g1' : ((a.length : Int) < b.length) = True := by simp; omega
      simp only [↓vp, vq0, vq1, vq2, vq3, vr0, vr1, vr2, vr3, vr4, vr5, vr6, vr7, vr8, vr9, vr10, vr11, vr12, vr13, vr14, vr15, vr16, vr17, vr18, vr19, vr20, vr21, vr22, vr23, vr24, vr25, vr26, vr27, vr28, vr29, vr30, vr31, vr32, vr33, vr34, opS, fpS, okP, pack, nAl, allocA, shId, leaves, fillA, fillR, splice, Nat.reduceLT, Nat.reduceEqDiff, Nat.reduceLeDiff, Nat.reduceAdd, Nat.reduceSub, Nat.reduceMul, Int.reduceBEq, Int.reduceBNe, Int.reduceLT, Int.reduceLE, Int.reduceEq, reduceIte, reduceCtorEq, h0, h1, lenB, g1']
      refine ret1 rfl (by decide) ?_
      simp only [↓vp, vq0, vq1, vq2, vq3, vr0, vr1, vr2, vr3, vr4, vr5, vr6, vr7, vr8, vr9, vr10, vr11, vr12, vr13, vr14, vr15, vr16, vr17, vr18, vr19, vr20, vr21, vr22, vr23, vr24, vr25, vr26, vr27, vr28, vr29, vr30, vr31, vr32, vr33, vr34, opS, fpS, okP, pack, nAl, allocA, shId, leaves, fillA, fillR, splice, Nat.reduceLT, Nat.reduceEqDiff, Nat.reduceLeDiff, Nat.reduceAdd, Nat.reduceSub, Nat.reduceMul, Int.reduceBEq, Int.reduceBNe, Int.reduceLT, Int.reduceLE, Int.reduceEq, reduceIte, reduceCtorEq]
      rw [hc, if_pos g1]
      exact ⟨_, rfl⟩
    · have g1' : ((a.length : Int) < b.length) = False := by simp; omega
      by_cases g2 : b.length < a.length
      · have g2' : ((b.length : Int) < a.length) = True := by simp; omega
        simp only [↓vp, vq0, vq1, vq2, vq3, vr0, vr1, vr2, vr3, vr4, vr5, vr6, vr7, vr8, vr9, vr10, vr11, vr12, vr13, vr14, vr15, vr16, vr17, vr18, vr19, vr20, vr21, vr22, vr23, vr24, vr25, vr26, vr27, vr28, vr29, vr30, vr31, vr32, vr33, vr34, opS, fpS, okP, pack, nAl, allocA, shId, leaves, fillA, fillR, splice, Nat.reduceLT, Nat.reduceEqDiff, Nat.reduceLeDiff, Nat.reduceAdd, Nat.reduceSub, Nat.reduceMul, Int.reduceBEq, Int.reduceBNe, Int.reduceLT, Int.reduceLE, Int.reduceEq, reduceIte, reduceCtorEq, h0, h1, lenB, g1', g2']
        refine ret1 rfl (by decide) ?_
        simp only [↓vp, vq0, vq1, vq2, vq3, vr0, vr1, vr2, vr3, vr4, vr5, vr6, vr7, vr8, vr9, vr10, vr11, vr12, vr13, vr14, vr15, vr16, vr17, vr18, vr19, vr20, vr21, vr22, vr23, vr24, vr25, vr26, vr27, vr28, vr29, vr30, vr31, vr32, vr33, vr34, opS, fpS, okP, pack, nAl, allocA, shId, leaves, fillA, fillR, splice, Nat.reduceLT, Nat.reduceEqDiff, Nat.reduceLeDiff, Nat.reduceAdd, Nat.reduceSub, Nat.reduceMul, Int.reduceBEq, Int.reduceBNe, Int.reduceLT, Int.reduceLE, Int.reduceEq, reduceIte, reduceCtorEq]
        rw [hc, if_neg g1, if_pos g2]
        exact ⟨_, rfl⟩
      · have g2' : ((b.length : Int) < a.length) = False := by simp; omega
        simp only [↓vp, vq0, vq1, vq2, vq3, vr0, vr1, vr2, vr3, vr4, vr5, vr6, vr7, vr8, vr9, vr10, vr11, vr12, vr13, vr14, vr15, vr16, vr17, vr18, vr19, vr20, vr21, vr22, vr23, vr24, vr25, vr26, vr27, vr28, vr29, vr30, vr31, vr32, vr33, vr34, opS, fpS, okP, pack, nAl, allocA, shId, leaves, fillA, fillR, splice, Nat.reduceLT, Nat.reduceEqDiff, Nat.reduceLeDiff, Nat.reduceAdd, Nat.reduceSub, Nat.reduceMul, Int.reduceBEq, Int.reduceBNe, Int.reduceLT, Int.reduceLE, Int.reduceEq, reduceIte, reduceCtorEq, h0, h1, lenB, g1', g2']
        refine ret1 rfl (by decide) ?_
        simp only [↓vp, vq0, vq1, vq2, vq3, vr0, vr1, vr2, vr3, vr4, vr5, vr6, vr7, vr8, vr9, vr10, vr11, vr12, vr13, vr14, vr15, vr16, vr17, vr18, vr19, vr20, vr21, vr22, vr23, vr24, vr25, vr26, vr27, vr28, vr29, vr30, vr31, vr32, vr33, vr34, opS, fpS, okP, pack, nAl, allocA, shId, leaves, fillA, fillR, splice, Nat.reduceLT, Nat.reduceEqDiff, Nat.reduceLeDiff, Nat.reduceAdd, Nat.reduceSub, Nat.reduceMul, Int.reduceBEq, Int.reduceBNe, Int.reduceLT, Int.reduceLE, Int.reduceEq, reduceIte, reduceCtorEq]
        rw [hc, if_neg g1, if_neg g2]
        exact ⟨_, rfl⟩
  · refine ret1 rfl (by decide) ?_
    rw [h4]
    exact ⟨_, rfl⟩
  · rfl
  · rfl
  · rfl
end Go.VI
