import Derived.Test.YtoinghjainpkfaaS4
import Derived.Shelf.SlSortCmp.WholeK
import Derived.Ground.SlsfProg
import Derived.Test.YtoinghjainpkfaaChecked
import Derived.ChangeArms
import Derived.ChangeReads
import GoSem.ClaimJoined
import Derived.Below
import Derived.KernelRfl
/- What the claim hangs on, part 5: SA PA PB PC PD PE PF PG PH PJ PP PQ PR VXR PT RSL VXQ RA RB RSM. -/
set_option linter.unusedVariables false
set_option linter.unusedSimpArgs false
set_option maxRecDepth 100000
namespace Go.VI
attribute [local congr] AW_congr OW_congr DW_congr NW_congr VW_congr GW_congr PW_congr KW_congr ite_congr' GV_congr CV_congr
abbrev Bytes:=List Int
structure ItemM where
 key : Bytes
 value : Bytes
 size : Int
 ref : Int
structure KidM where
 key : Bytes
 ref : Int
structure NodeM where
 leaf : Bool
 items : List ItemM
 kids : List KidM
structure NamedM where
 ref : Int
 n : NodeM
structure StepM where
 ref : Int
 n : NodeM
 k : Int
def int (n : Int) : AV:=.sc (.int .i64 n)
def boolA (b : Bool) : AV:=.sc (.bool b)
def byteC (n : Int) : List AV:=[.sc (.int .u8 n)]
def encB (l : Bytes) : AV:=.lst (l.map byteC)
def itemC (x : ItemM) : List AV:=[encB x.key,encB x.value,int x.size,int x.ref]
def encI (l : List ItemM) : AV:=.lst (l.map itemC)
def kidC (x : KidM) : List AV:=[encB x.key,int x.ref]
def encK (l : List KidM) : AV:=.lst (l.map kidC)
def nodeC (n : NodeM) : List AV:=[boolA n.leaf,encI n.items,encK n.kids]
def namedC (x : NamedM) : List AV:=int x.ref :: nodeC x.n
def encL (l : List NamedM) : AV:=.lst (l.map namedC)
def stepC (x : StepM) : List AV:=[int x.ref,boolA x.n.leaf,encI x.n.items,encK x.n.kids,int x.k]
def encS (l : List StepM) : AV:=.lst (l.map stepC)
section
variable {H : Heap} {K : Heap} {L : List Blk}
theorem len_itemC (x : ItemM) : (itemC x).length = 4:=rfl
theorem len_kidC (x : KidM) : (kidC x).length = 2:=rfl
theorem len_namedC (x : NamedM) : (namedC x).length = 4:=rfl
theorem len_stepC (x : StepM) : (stepC x).length = 5:=rfl
theorem lenB (l : Bytes) : lenV H 0 (encB l) = some (.sc (.int .i64 (l.length : Int)),H):=by simp [lenV,lenOfA,encB]
theorem lenI (l : List ItemM) : lenV H 0 (encI l) = some (.sc (.int .i64 (l.length : Int)),H):=by simp [lenV,lenOfA,encI]
theorem lenK (l : List KidM) : lenV H 0 (encK l) = some (.sc (.int .i64 (l.length : Int)),H):=by simp [lenV,lenOfA,encK]
theorem lenL (l : List NamedM) : lenV H 0 (encL l) = some (.sc (.int .i64 (l.length : Int)),H):=by simp [lenV,lenOfA,encL]
theorem lenS (l : List StepM) : lenV H 0 (encS l) = some (.sc (.int .i64 (l.length : Int)),H):=by simp [lenV,lenOfA,encS]
end
section
theorem zi (n : Nat) (H : Heap) (x : ItemM) : frz.frzL (n + 6) H (itemC x) = some (itemC x,H):=rfl
theorem zk (n : Nat) (H : Heap) (x : KidM) : frz.frzL (n + 4) H (kidC x) = some (kidC x,H):=rfl
theorem zn (n : Nat) (H : Heap) (x : NodeM) : frz.frzL (n + 5) H (nodeC x) = some (nodeC x,H):=rfl
theorem zm (n : Nat) (H : Heap) (x : NamedM) : frz.frzL (n + 6) H (namedC x) = some (namedC x,H):=rfl
theorem zs (n : Nat) (H : Heap) (x : StepM) : frz.frzL (n + 7) H (stepC x) = some (stepC x,H):=rfl
theorem fz_i (H : Heap) (x : ItemM) : frz.frzL 24 H (itemC x) = some (itemC x,H):=rfl
theorem fz_k (H : Heap) (x : KidM) : frz.frzL 24 H (kidC x) = some (kidC x,H):=rfl
theorem i_all (x : ItemM) : (itemC x).take 4 = itemC x:=rfl
theorem i_0 (x : ItemM) : (itemC x).take 1 = [encB x.key]:=rfl
theorem i_1 (x : ItemM) : ((itemC x).drop 1).take 1 = [encB x.value]:=rfl
theorem i_2 (x : ItemM) : ((itemC x).drop 2).take 1 = [int x.size]:=rfl
theorem i_3 (x : ItemM) : ((itemC x).drop 3).take 1 = [int x.ref]:=rfl
theorem i_one (x : ItemM) : oneAll (itemC x) = true:=rfl
theorem k_all (x : KidM) : (kidC x).take 2 = kidC x:=rfl
theorem k_0 (x : KidM) : (kidC x).take 1 = [encB x.key]:=rfl
theorem k_1 (x : KidM) : ((kidC x).drop 1).take 1 = [int x.ref]:=rfl
theorem k_one (x : KidM) : oneAll (kidC x) = true:=rfl
theorem n_all (x : NodeM) : (nodeC x).take 3 = nodeC x:=rfl
theorem n_0 (x : NodeM) : (nodeC x).take 1 = [boolA x.leaf]:=rfl
theorem n_1 (x : NodeM) : ((nodeC x).drop 1).take 1 = [encI x.items]:=rfl
theorem n_2 (x : NodeM) : ((nodeC x).drop 2).take 1 = [encK x.kids]:=rfl
theorem n_one (x : NodeM) : oneAll (nodeC x) = true:=rfl
theorem len_nodeC (x : NodeM) : (nodeC x).length = 3:=rfl
theorem m_all (x : NamedM) : (namedC x).take 4 = namedC x:=rfl
theorem m_0 (x : NamedM) : (namedC x).take 1 = [int x.ref]:=rfl
theorem m_n (x : NamedM) : ((namedC x).drop 1).take 3 = nodeC x.n:=rfl
theorem m_1 (x : NamedM) : ((namedC x).drop 1).take 1 = [boolA x.n.leaf]:=rfl
theorem m_2 (x : NamedM) : ((namedC x).drop 2).take 1 = [encI x.n.items]:=rfl
theorem m_3 (x : NamedM) : ((namedC x).drop 3).take 1 = [encK x.n.kids]:=rfl
theorem m_one (x : NamedM) : oneAll (namedC x) = true:=rfl
theorem s_all (x : StepM) : (stepC x).take 5 = stepC x:=rfl
theorem s_0 (x : StepM) : (stepC x).take 1 = [int x.ref]:=rfl
theorem s_n (x : StepM) : ((stepC x).drop 1).take 3 = nodeC x.n:=rfl
theorem s_1 (x : StepM) : ((stepC x).drop 1).take 1 = [boolA x.n.leaf]:=rfl
theorem s_2 (x : StepM) : ((stepC x).drop 2).take 1 = [encI x.n.items]:=rfl
theorem s_3 (x : StepM) : ((stepC x).drop 3).take 1 = [encK x.n.kids]:=rfl
theorem s_4 (x : StepM) : ((stepC x).drop 4).take 1 = [int x.k]:=rfl
theorem s_one (x : StepM) : oneAll (stepC x) = true:=rfl
theorem frz_B (n : Nat) (H : Heap) (l : Bytes) : frz (n + 1) H (encB l) = some (encB l,H):=rfl
theorem frz_I (n : Nat) (H : Heap) (l : List ItemM) : frz (n + 1) H (encI l) = some (encI l,H):=rfl
theorem frz_K (n : Nat) (H : Heap) (l : List KidM) : frz (n + 1) H (encK l) = some (encK l,H):=rfl
theorem frz_L (n : Nat) (H : Heap) (l : List NamedM) : frz (n + 1) H (encL l) = some (encL l,H):=rfl
theorem frz_S (n : Nat) (H : Heap) (l : List StepM) : frz (n + 1) H (encS l) = some (encS l,H):=rfl
theorem one_B (l : Bytes) : (encB l).one = true:=rfl
theorem one_I (l : List ItemM) : (encI l).one = true:=rfl
theorem one_K (l : List KidM) : (encK l).one = true:=rfl
theorem one_L (l : List NamedM) : (encL l).one = true:=rfl
theorem one_S (l : List StepM) : (encS l).one = true:=rfl
theorem cs_B (l : Bytes) : (encB l).cells = [encB l]:=rfl
theorem cs_I (l : List ItemM) : (encI l).cells = [encI l]:=rfl
theorem cs_K (l : List KidM) : (encK l).cells = [encK l]:=rfl
theorem cs_L (l : List NamedM) : (encL l).cells = [encL l]:=rfl
theorem cs_S (l : List StepM) : (encS l).cells = [encS l]:=rfl
set_option linter.defProp false
def da:=(⟨@zi,@zk,@zn,@zm,@zs,@fz_i,@fz_k,@lenB,@lenI,@lenK,@lenL,@lenS,@i_all,@i_0,@i_1,@i_2,@i_3,@i_one,@k_all,@k_0,@k_1,@k_one,@n_all,@n_0,@n_1,@n_2,@n_one,@len_nodeC,@m_all,@m_0,@m_n,@m_1,@m_2,@m_3,@m_one,@s_all,@s_0,@s_n,@s_1,@s_2,@s_3,@s_4,@s_one,@len_itemC,@len_kidC,@len_namedC,@len_stepC,@frz_B,@frz_I,@frz_K,@frz_L,@frz_S,@one_B,@one_I,@one_K,@one_L,@one_S,@cs_B,@cs_I,@cs_K,@cs_L,@cs_S⟩ : _ ∧ _ ∧ _ ∧ _ ∧ _ ∧ _ ∧ _ ∧ _ ∧ _ ∧ _ ∧ _ ∧ _ ∧ _ ∧ _ ∧ _ ∧ _ ∧ _ ∧ _ ∧ _ ∧ _ ∧ _ ∧ _ ∧ _ ∧ _ ∧ _ ∧ _ ∧ _ ∧ _ ∧ _ ∧ _ ∧ _ ∧ _ ∧ _ ∧ _ ∧ _ ∧ _ ∧ _ ∧ _ ∧ _ ∧ _ ∧ _ ∧ _ ∧ _ ∧ _ ∧ _ ∧ _ ∧ _ ∧ _ ∧ _ ∧ _ ∧ _ ∧ _ ∧ _ ∧ _ ∧ _ ∧ _ ∧ _ ∧ _ ∧ _ ∧ _ ∧ _ ∧ _)
end
end Go.VI
namespace Go.VI
attribute [local congr] AW_congr OW_congr DW_congr NW_congr VW_congr GW_congr PW_congr KW_congr ite_congr' GV_congr CV_congr
abbrev RunM:=Int × Int
def runC (x : RunM) : List AV:=[int x.1,int x.2]
def encR (l : List RunM) : AV:=.lst (l.map runC)
def numC (n : Int) : List AV:=[int n]
def encN (l : List Int) : AV:=.lst (l.map numC)
def bitC (b : Bool) : List AV:=[boolA b]
def encT (l : List Bool) : AV:=.lst (l.map bitC)
section
variable {H : Heap}
theorem len_runC (x : RunM) : (runC x).length = 2:=rfl
theorem len_numC (x : Int) : (numC x).length = 1:=rfl
theorem len_bitC (x : Bool) : (bitC x).length = 1:=rfl
theorem lenR (l : List RunM) : lenV H 0 (encR l) = some (.sc (.int .i64 (l.length : Int)),H):=by simp [lenV,lenOfA,encR]
theorem lenN (l : List Int) : lenV H 0 (encN l) = some (.sc (.int .i64 (l.length : Int)),H):=by simp [lenV,lenOfA,encN]
theorem lenT (l : List Bool) : lenV H 0 (encT l) = some (.sc (.int .i64 (l.length : Int)),H):=by simp [lenV,lenOfA,encT]
theorem atR {l : List RunM} {i : Nat} (h : i < l.length) : iaddrA H none 2 (encR l) (i : Int) = some (.pim (l.map runC) i 0):=iaddr_map h len_runC
theorem atN {l : List Int} {i : Nat} (h : i < l.length) : iaddrA H none 1 (encN l) (i : Int) = some (.pim (l.map numC) i 0):=iaddr_map h len_numC
theorem atT {l : List Bool} {i : Nat} (h : i < l.length) : iaddrA H none 1 (encT l) (i : Int) = some (.pim (l.map bitC) i 0):=iaddr_map h len_bitC
theorem cR {l : List RunM} {i off n : Nat} (h : i < l.length) : cellsAt H (.pim (l.map runC) i off) n = if off + n ≤ 2 then some (((runC l[i]).drop off).take n) else none:=cells_map h
theorem cN {l : List Int} {i off n : Nat} (h : i < l.length) : cellsAt H (.pim (l.map numC) i off) n = if off + n ≤ 1 then some (((numC l[i]).drop off).take n) else none:=cells_map h
theorem cT {l : List Bool} {i off n : Nat} (h : i < l.length) : cellsAt H (.pim (l.map bitC) i off) n = if off + n ≤ 1 then some (((bitC l[i]).drop off).take n) else none:=cells_map h
theorem zr (n : Nat) (H : Heap) (x : RunM) : frz.frzL (n + 3) H (runC x) = some (runC x,H):=rfl
theorem fz_r (H : Heap) (x : RunM) : frz.frzL 24 H (runC x) = some (runC x,H):=rfl
theorem r_all (x : RunM) : (runC x).take 2 = runC x:=rfl
theorem r_0 (x : RunM) : (runC x).take 1 = [int x.1]:=rfl
theorem r_1 (x : RunM) : ((runC x).drop 1).take 1 = [int x.2]:=rfl
theorem r_one (x : RunM) : oneAll (runC x) = true:=rfl
theorem nu_0 (x : Int) : (numC x).take 1 = [int x]:=rfl
theorem bi_0 (x : Bool) : (bitC x).take 1 = [boolA x]:=rfl
theorem frz_R (n : Nat) (H : Heap) (l : List RunM) : frz (n + 1) H (encR l) = some (encR l,H):=rfl
theorem frz_N (n : Nat) (H : Heap) (l : List Int) : frz (n + 1) H (encN l) = some (encN l,H):=rfl
theorem frz_T (n : Nat) (H : Heap) (l : List Bool) : frz (n + 1) H (encT l) = some (encT l,H):=rfl
theorem one_R (l : List RunM) : (encR l).one = true:=rfl
theorem one_N (l : List Int) : (encN l).one = true:=rfl
theorem one_T (l : List Bool) : (encT l).one = true:=rfl
theorem cs_R (l : List RunM) : (encR l).cells = [encR l]:=rfl
theorem cs_N (l : List Int) : (encN l).cells = [encN l]:=rfl
theorem cs_T (l : List Bool) : (encT l).cells = [encT l]:=rfl
theorem sids_R (l : List RunM) : sids [encR l] = some []:=rfl
theorem sids_N (l : List Int) : sids [encN l] = some []:=rfl
theorem sids_T (l : List Bool) : sids [encT l] = some []:=rfl
end
set_option linter.defProp false
def dr:=And.intro @len_runC <| And.intro @len_numC <| And.intro @len_bitC <| And.intro @lenR <| And.intro @lenN <| And.intro @lenT <| And.intro @zr <| And.intro @fz_r <| And.intro @r_all <| And.intro @r_0 <| And.intro @r_1 <| And.intro @r_one <| And.intro @nu_0 <| And.intro @bi_0 <| And.intro @frz_R <| And.intro @frz_N <| And.intro @frz_T <| And.intro @one_R <| And.intro @one_N <| And.intro @one_T <| And.intro @cs_R <| And.intro @cs_N <| And.intro @cs_T <| And.intro @sids_R <| And.intro @sids_N @sids_T
def mayM (x : RunM) : Bool:=decide (0 ≤ x.1) && decide (1 ≤ x.2) && decide (x.1 ≤ 32768) && decide (x.2 ≤ 32768 - x.1)
theorem mayM_iff {x : RunM} : mayM x = true ↔ 0 ≤ x.1 ∧ 1 ≤ x.2 ∧ x.1 ≤ 32768 ∧ x.2 ≤ 32768 - x.1:=by simp [mayM,and_assoc]
theorem s106 (x : RunM) (H : Heap) : callL ft (.fn (.func 106) [] []) [.agg (runC x)] H = some (boolA (mayM x),H):=by
 refine call_p (as':=[.agg (runC x)]) rfl rfl (by simp) ?_
 unfold c106 r106
 by_cases h1 : 0 ≤ x.1
 ·by_cases h2 : 1 ≤ x.2
  ·by_cases h3 : x.1 ≤ 32768
   ·have w : IntKind.i64.wrap (32768 - x.1) = 32768 - x.1:=wrap_i64 (by omega)
    have e : mayM x = decide (x.2 ≤ 32768 - x.1):=by simp [mayM,h1,h2,h3]
    rw [e]
    simp only [↓vp,vz,Nat.reduceLT,Nat.reduceEqDiff,Nat.reduceLeDiff,Nat.reduceAdd,Nat.reduceSub,Nat.reduceMul,Int.reduceBEq,Int.reduceBNe,Int.reduceLT,Int.reduceLE,Int.reduceEq,reduceIte,reduceCtorEq,da,int,boolA,rt,dr,runC,h1,h2,h3,w]
   ·have e : mayM x = false:=by simp [mayM,h3]
    rw [e]
    simp only [↓vp,vz,Nat.reduceLT,Nat.reduceEqDiff,Nat.reduceLeDiff,Nat.reduceAdd,Nat.reduceSub,Nat.reduceMul,Int.reduceBEq,Int.reduceBNe,Int.reduceLT,Int.reduceLE,Int.reduceEq,reduceIte,reduceCtorEq,da,int,boolA,rt,dr,runC,h1,h2,h3]
  ·have e : mayM x = false:=by simp [mayM,h2]
   rw [e]
   simp only [↓vp,vz,Nat.reduceLT,Nat.reduceEqDiff,Nat.reduceLeDiff,Nat.reduceAdd,Nat.reduceSub,Nat.reduceMul,Int.reduceBEq,Int.reduceBNe,Int.reduceLT,Int.reduceLE,Int.reduceEq,reduceIte,reduceCtorEq,da,int,boolA,rt,dr,runC,h1,h2]
 ·have e : mayM x = false:=by simp [mayM,h1]
  rw [e]
  simp only [↓vp,vz,Nat.reduceLT,Nat.reduceEqDiff,Nat.reduceLeDiff,Nat.reduceAdd,Nat.reduceSub,Nat.reduceMul,Int.reduceBEq,Int.reduceBNe,Int.reduceLT,Int.reduceLE,Int.reduceEq,reduceIte,reduceCtorEq,da,int,boolA,rt,dr,runC,h1]
theorem k106 {x : RunM} {K : Heap} {L : List Blk} {Q : AV → Heap → Prop} : KW ft (.fn (.func 106) [] []) [.agg (runC x)] (hx K L) Q ↔ Q (boolA (mayM x)) (hx K L):=KW_of (s106 x _)
theorem s49 (x : RunM) (H : Heap) : callL ft (.fn (.func 49) [] []) [.agg (runC x)] H = some (boolA (mayM x),H):=by
 refine call_p (as':=[.agg (runC x)]) rfl rfl (by simp) ?_
 unfold c49 r49
 by_cases h1 : 0 ≤ x.1
 ·by_cases h3 : x.1 ≤ 32768
  ·by_cases h2 : 1 ≤ x.2
   ·by_cases h4 : x.2 ≤ 32768
    ·have w : IntKind.i64.wrap (x.1 + x.2) = x.1 + x.2:=wrap_i64 (by omega)
     have e : mayM x = decide (x.1 + x.2 ≤ 32768):=by
      simp [mayM,h1,h2,h3]
      omega
     rw [e]
     simp only [↓vp,vz,Nat.reduceLT,Nat.reduceEqDiff,Nat.reduceLeDiff,Nat.reduceAdd,Nat.reduceSub,Nat.reduceMul,Int.reduceBEq,Int.reduceBNe,Int.reduceLT,Int.reduceLE,Int.reduceEq,reduceIte,reduceCtorEq,da,int,boolA,rt,dr,runC,h1,h2,h3,h4,w]
    ·have e : mayM x = false:=by simp [mayM]; omega
     rw [e]
     simp only [↓vp,vz,Nat.reduceLT,Nat.reduceEqDiff,Nat.reduceLeDiff,Nat.reduceAdd,Nat.reduceSub,Nat.reduceMul,Int.reduceBEq,Int.reduceBNe,Int.reduceLT,Int.reduceLE,Int.reduceEq,reduceIte,reduceCtorEq,da,int,boolA,rt,dr,runC,h1,h2,h3,h4]
   ·have e : mayM x = false:=by simp [mayM,h2]
    rw [e]
    simp only [↓vp,vz,Nat.reduceLT,Nat.reduceEqDiff,Nat.reduceLeDiff,Nat.reduceAdd,Nat.reduceSub,Nat.reduceMul,Int.reduceBEq,Int.reduceBNe,Int.reduceLT,Int.reduceLE,Int.reduceEq,reduceIte,reduceCtorEq,da,int,boolA,rt,dr,runC,h1,h2,h3]
  ·have e : mayM x = false:=by simp [mayM,h3]
   rw [e]
   simp only [↓vp,vz,Nat.reduceLT,Nat.reduceEqDiff,Nat.reduceLeDiff,Nat.reduceAdd,Nat.reduceSub,Nat.reduceMul,Int.reduceBEq,Int.reduceBNe,Int.reduceLT,Int.reduceLE,Int.reduceEq,reduceIte,reduceCtorEq,da,int,boolA,rt,dr,runC,h1,h3]
 ·have e : mayM x = false:=by simp [mayM,h1]
  rw [e]
  simp only [↓vp,vz,Nat.reduceLT,Nat.reduceEqDiff,Nat.reduceLeDiff,Nat.reduceAdd,Nat.reduceSub,Nat.reduceMul,Int.reduceBEq,Int.reduceBNe,Int.reduceLT,Int.reduceLE,Int.reduceEq,reduceIte,reduceCtorEq,da,int,boolA,rt,dr,runC,h1]
theorem k49 {x : RunM} {K : Heap} {L : List Blk} {Q : AV → Heap → Prop} : KW ft (.fn (.func 49) [] []) [.agg (runC x)] (hx K L) Q ↔ Q (boolA (mayM x)) (hx K L):=KW_of (s49 x _)
def endM (x : RunM) : Int:=x.1 + x.2
theorem s107 (x : RunM) (h : -9223372036854775808 ≤ x.1 + x.2 ∧ x.1 + x.2 < 9223372036854775808) (H : Heap) : callL ft (.fn (.func 107) [] []) [.agg (runC x)] H = some (int (endM x),H):=by
 refine call_p (as':=[.agg (runC x)]) rfl rfl (by simp) ?_
 unfold c107 r107
 have w : IntKind.i64.wrap (x.1 + x.2) = endM x:=wrap_i64 (by omega)
 simp only [↓vp,vz,Nat.reduceLT,Nat.reduceEqDiff,Nat.reduceLeDiff,Nat.reduceAdd,Nat.reduceSub,Nat.reduceMul,Int.reduceBEq,Int.reduceBNe,Int.reduceLT,Int.reduceLE,Int.reduceEq,reduceIte,reduceCtorEq,da,int,boolA,rt,dr,runC,w]
theorem k107 {x : RunM} (h : -9223372036854775808 ≤ x.1 + x.2 ∧ x.1 + x.2 < 9223372036854775808) {K : Heap} {L : List Blk} {Q : AV → Heap → Prop} : KW ft (.fn (.func 107) [] []) [.agg (runC x)] (hx K L) Q ↔ Q (int (endM x)) (hx K L):=KW_of (s107 x h _)
end Go.VI
namespace Go.VI
attribute [local congr] AW_congr OW_congr DW_congr NW_congr VW_congr GW_congr PW_congr KW_congr ite_congr' GV_congr CV_congr
def kill (K : Heap) : AV → Heap
 | .sl id _ _ => K.set id .dead
 | _ => K
theorem kill_next (K : Heap) (S : AV) : (kill K S).next = K.next:=by
 unfold kill
 split
 ·exact Heap.next_set _ _ _
 ·rfl
theorem kill_get {K : Heap} {S : AV} {sz : Nat} {rows : List (List AV)} (h : Rep K sz S rows) {j : Nat} {b : Blk} (hj : K.get j = some b) (hb : ∀ r,b ≠ .row false sz r) : (kill K S).get j = some b:=by
 rcases h with ⟨rfl,_⟩ | ⟨id,rfl,hr⟩
 ·exact hj
 ·have : j ≠ id:=fun e => by
   subst e
   rw [hj] at hr
   exact hb _ (Option.some.inj hr)
  show (K.set id .dead).get j = _
  rw [Heap.get_set_ne _ this,hj]
theorem appA_rep {K : Heap} {S : AV} {sz bytes nid : Nat} {rows : List (List AV)} (h : Rep K sz S rows) {xs : List (List AV)} (h0 : xs ≠ []) (hs : allSz sz xs = true) (hb : (rows.length + xs.length) * bytes ≤ 140737488355328) (L : List Blk) :
  appA nid (hx K L) sz bytes S xs = some (.sl nid 0 (rows.length + xs.length),(hx (kill K S) L).put nid (.row false sz (rows ++ xs))):=by
 have hl : xs.length ≠ 0:=fun e => h0 (List.eq_nil_of_length_eq_zero e)
 rcases h with ⟨rfl,rfl⟩ | ⟨id,rfl,hr⟩
 ·rw [appA_nil,if_neg hl,if_pos ⟨by simpa using hb,hs⟩]
  simp [kill]
 ·have lid:=Heap.get_lt hr
  rw [appA_sl,hx_get_old K L id lid,hr]
  simp only
  rw [if_pos ⟨by trivial,by omega,hb,hs⟩,if_neg (by omega),hx_set_old K L _ id lid,List.drop_zero,List.take_of_length_le (Nat.le_refl _)]
  rfl
theorem get_old {K : Heap} {j : Nat} {b : Blk} (hj : K.get j = some b) (L : List Blk) : (hx K L).get j = some b:=by
 rw [hx_get_old _ _ _ (Heap.get_lt hj),hj]
def Stay (B : Nat) (H H' : Heap) : Prop:=H.next ≤ H'.next ∧ ∀ j,j < B → H'.get j = H.get j
theorem Stay.rfl' {B : Nat} {H : Heap} : Stay B H H:=⟨Nat.le_refl _,fun _ _ => rfl⟩
theorem Stay.trans {B : Nat} {H H' H'' : Heap} (h : Stay B H H') (h' : Stay B H' H'') : Stay B H H'':=⟨Nat.le_trans h.1 h'.1,fun j hj => (h'.2 j hj).trans (h.2 j hj)⟩
theorem Stay.hx {B : Nat} {H : Heap} (L : List Blk) (h : B ≤ H.next) : Stay B H (hx H L):=⟨by rw [hx_next]; omega,fun j hj => hx_get_old _ _ _ (by omega)⟩
theorem Stay.set {B : Nat} {H : Heap} {id : Nat} (b : Blk) (h : B ≤ id) : Stay B H (H.set id b):=⟨by rw [Heap.next_set]; exact Nat.le_refl _,fun j hj => Heap.get_set_ne _ (by omega)⟩
def RepB (B : Nat) (K : Heap) (sz : Nat) (S : AV) (rows : List (List AV)) : Prop:=(S = .sc (.slice none 0 0) ∧ rows = []) ∨ ∃ id,B ≤ id ∧ S = .sl id 0 rows.length ∧ K.get id = some (.row false sz rows)
theorem RepB.rep {B : Nat} {K : Heap} {sz : Nat} {S : AV} {rows : List (List AV)} (h : RepB B K sz S rows) : Rep K sz S rows:=by
 rcases h with h | ⟨id,_,h1,h2⟩
 ·exact .inl h
 ·exact .inr ⟨id,h1,h2⟩
theorem RepB.kill {B : Nat} {K : Heap} {sz : Nat} {S : AV} {rows : List (List AV)} (h : RepB B K sz S rows) : Stay B K (kill K S):=by
 rcases h with ⟨rfl,_⟩ | ⟨id,hb,rfl,_⟩
 ·exact .rfl'
 ·exact .set _ hb
theorem rowSz_of {H : Heap} {id : Nat} {fz : Bool} {sz : Nat} {rs : List (List AV)} (h : H.get id = some (.row fz sz rs)) : rowSz H id = some sz:=by unfold rowSz; rw [h]
theorem RepB.mono {B : Nat} {K K' : Heap} {sz : Nat} {S : AV} {rows : List (List AV)} (h : RepB B K sz S rows) (hk : ∀ id,B ≤ id → K.get id = some (.row false sz rows) → K'.get id = some (.row false sz rows)) : RepB B K' sz S rows:=by
 rcases h with h | ⟨id,hb,h1,h2⟩
 ·exact .inl h
 ·exact .inr ⟨id,hb,h1,hk id hb h2⟩
theorem rep_take {α : Type} (g : α → List AV) {l : List α} {i : Nat} (h : i < l.length) : (l.take (i + 1)).map g = (l.take i).map g ++ [g l[i]]:=by
 rw [List.take_succ_eq_append_getElem h,List.map_append]; rfl
theorem frz_rep {K : Heap} {L : List Blk} {sz : Nat} {S : AV} {rows : List (List AV)} (h : Rep (hx K L) sz S rows) (n : Nat) : ∃ K',frz (n + 1) (hx K L) S = some (.lst rows,K'):=by
 rcases h with ⟨rfl,rfl⟩ | ⟨id,rfl,h⟩
 ·exact ⟨_,rfl⟩
 ·refine ⟨(hx K L).set id (.row true sz rows),?_⟩
  rw [frz_sl,h]
  simp
theorem hxe_get' (L : List Blk) (i : Nat) : (hx Heap.empty L).get i = L[i]?:=by simp [hx,Heap.get,Heap.empty]
theorem hxe_nx (L : List Blk) : (hx Heap.empty L).next = L.length:=by simp [hx,Heap.next,Heap.empty]
theorem hx_hx (K : Heap) (L M : List Blk) : hx (hx K L) M = hx K (L ++ M):=by simp [hx]
def rgtL : Int → List RunM → Bool
 | _,[] => true
 | e,x :: xs => mayM x && (decide (e < x.1) && rgtL (endM x) xs)
def rightM (l : List RunM) : Bool:=rgtL (-1) l
def prevE (l : List RunM) (i : Nat) : Int:=if h : 0 < i ∧ i - 1 < l.length then endM l[i - 1] else -1
theorem prevE_0 (l : List RunM) : prevE l 0 = -1:=by simp [prevE]
theorem prevE_s {l : List RunM} {i : Nat} (h : i < l.length) : prevE l (i + 1) = endM l[i]:=by
 unfold prevE
 rw [dif_pos ⟨by omega,by simpa using h⟩]
 simp
theorem rgt_step {l : List RunM} {i : Nat} (h : i < l.length) : rgtL (prevE l i) (l.drop i) = (mayM l[i] && (decide (prevE l i < l[i].1) && rgtL (prevE l (i + 1)) (l.drop (i + 1)))):=by
 rw [List.drop_eq_getElem_cons h,prevE_s h]
 rfl
theorem may_end {x : RunM} (h : mayM x = true) : -9223372036854775808 ≤ x.1 + x.2 ∧ x.1 + x.2 < 9223372036854775808:=by
 rw [mayM_iff] at h
 omega
theorem p107 (x : RunM) : pureV ft (.fn (.func 107) [] []) [.agg (runC x)] = some (false,[]):=rfl
theorem l40 (l : List RunM) (hl : l.length ≤ 2000000) {Q : AExit → Env → Heap → Prop}
   (hex : ∀ f' K, rightM l = true → Q (.exit 0) (mkE 31 f') (hx K []))
   (hret : ∀ f' K, rightM l = false → f' 2 = boolA false → Q .ret (mkE 31 f') (hx K [])) :
   ∀ (d i : Nat) (K : Heap) (f : Nat → AV), i + d = l.length → rightM l = rgtL (prevE l i) (l.drop i) → (∀ j (hj : j < l.length), i = j + 1 → mayM l[j] = true) → f 0 = encR l → f 5 = encR l → f 6 = int l.length → f 7 = int i →
    AW ft (.loop c40L0) (mkE 31 f) (hx K []) Q := by
  intro d
  induction d with
  | zero =>
    intro i K f hd hc hm h0 h5 h6 h7
    have g1 : ((i : Int) < l.length) = False := by simp; omega
    rw [AW_loop]
    unfold c40L0
    rw [List.drop_eq_nil_of_le (by omega)] at hc
    simp only [↓vp, vz, Nat.reduceLT, Nat.reduceEqDiff, Nat.reduceLeDiff, Nat.reduceAdd, Nat.reduceSub, Nat.reduceMul, Int.reduceBEq, Int.reduceBNe, Int.reduceLT, Int.reduceLE, Int.reduceEq, reduceIte, reduceCtorEq, da, int, boolA, h6, h7, g1]
    exact hex _ K (by rw [hc]; rfl)
  | succ d ih =>
    intro i K f hd hc hm h0 h5 h6 h7
    have g1 : ((i : Int) < l.length) = True := by simp; omega
    have gi : i < l.length := by omega
    have w1 := wrap_succ (show i < 9223372036854775807 by omega)
    rw [rgt_step gi] at hc
    have km := fun K L Q => @k106 l[i] K L Q
    simp only [runC, int] at km
    rw [AW_loop]
    unfold c40L0
    cases c1 : mayM l[i] with
    | false =>
      rw [c1, Bool.false_and] at hc
      rw [c1] at km
      simp only [↓vp, vz, Nat.reduceLT, Nat.reduceEqDiff, Nat.reduceLeDiff, Nat.reduceAdd, Nat.reduceSub, Nat.reduceMul, Int.reduceBEq, Int.reduceBNe, Int.reduceLT, Int.reduceLE, Int.reduceEq, reduceIte, reduceCtorEq, da, int, boolA, dr, h0, h5, h6, h7, g1, atR gi, cR gi, runC, km]
      rw [← hx_nil (hx K _)]
      refine hret _ _ hc ?_
      simp only [↓vp, vz, Nat.reduceLT, Nat.reduceEqDiff, Nat.reduceLeDiff, Nat.reduceAdd, Nat.reduceSub, Nat.reduceMul, Int.reduceBEq, Int.reduceBNe, Int.reduceLT, Int.reduceLE, Int.reduceEq, reduceIte, reduceCtorEq, da, int, boolA]
    | true =>
      rw [c1, Bool.true_and] at hc
      rw [c1] at km
      cases i with
      | zero =>
        have hb := (mayM_iff.1 c1).1
        rw [prevE_0, decide_eq_true (by omega), Bool.true_and] at hc
        have g2 : (((0 : Nat) : Int) > 0) = False := eq_false (by omega)
        simp only [↓vp, vz, Nat.reduceLT, Nat.reduceEqDiff, Nat.reduceLeDiff, Nat.reduceAdd, Nat.reduceSub, Nat.reduceMul, Int.reduceBEq, Int.reduceBNe, Int.reduceLT, Int.reduceLE, Int.reduceEq, reduceIte, reduceCtorEq, da, int, boolA, dr, h0, h5, h6, h7, g1, g2, atR gi, cR gi, runC, km, w1]
        rw [← hx_nil (hx K _)]
        refine ih 1 _ _ (by omega) hc (fun j hj e => by obtain rfl : j = 0 := by omega
                                                        exact c1) ?_ ?_ ?_ ?_ <;> simp only [↓vp, vz, Nat.reduceLT, Nat.reduceEqDiff, Nat.reduceLeDiff, Nat.reduceAdd, Nat.reduceSub, Nat.reduceMul, Int.reduceBEq, Int.reduceBNe, Int.reduceLT, Int.reduceLE, Int.reduceEq, reduceIte, reduceCtorEq, da, int, boolA, h0, h5, h6]
      | succ j =>
        have hj : j < l.length := by omega
        have mj := hm j hj rfl
        have ke := fun K L Q => @k107 l[j] (may_end mj) K L Q
        have kp := p107 l[j]
        simp only [runC, int] at ke kp
        have w2 : IntKind.i64.wrap (((j + 1 : Nat) : Int) - 1) = (j : Int) := by rw [wrap_i64 (by omega)]; omega
        have g2 : (((j + 1 : Nat) : Int) > 0) = True := eq_true (by omega)
        rw [prevE_s hj] at hc
        by_cases c2 : endM l[j] < l[j + 1].1
        · have d2 : (l[j + 1].1 ≤ endM l[j]) = False := eq_false (by omega)
          simp only [↓vp, vz, Nat.reduceLT, Nat.reduceEqDiff, Nat.reduceLeDiff, Nat.reduceAdd, Nat.reduceSub, Nat.reduceMul, Int.reduceBEq, Int.reduceBNe, Int.reduceLT, Int.reduceLE, Int.reduceEq, reduceIte, reduceCtorEq, da, int, boolA, dr, h0, h5, h6, h7, g1, g2, w2, atR gi, cR gi, atR hj, cR hj, runC, km, ke, kp, d2, w1]
          rw [← hx_nil (hx K _)]
          refine ih (j + 2) _ _ (by omega) (by rw [hc, decide_eq_true c2, Bool.true_and]) (fun k hk e => by obtain rfl : k = j + 1 := by omega
                                                                                                            exact c1) ?_ ?_ ?_ ?_ <;> simp only [↓vp, vz, Nat.reduceLT, Nat.reduceEqDiff, Nat.reduceLeDiff, Nat.reduceAdd, Nat.reduceSub, Nat.reduceMul, Int.reduceBEq, Int.reduceBNe, Int.reduceLT, Int.reduceLE, Int.reduceEq, reduceIte, reduceCtorEq, da, int, boolA, h0, h5, h6]
        · have d2 : (l[j + 1].1 ≤ endM l[j]) = True := eq_true (by omega)
          rw [decide_eq_false c2, Bool.false_and] at hc
          simp only [↓vp, vz, Nat.reduceLT, Nat.reduceEqDiff, Nat.reduceLeDiff, Nat.reduceAdd, Nat.reduceSub, Nat.reduceMul, Int.reduceBEq, Int.reduceBNe, Int.reduceLT, Int.reduceLE, Int.reduceEq, reduceIte, reduceCtorEq, da, int, boolA, dr, h0, h5, h6, h7, g1, g2, w2, atR gi, cR gi, atR hj, cR hj, runC, km, ke, kp, d2]
          rw [← hx_nil (hx K _)]
          refine hret _ _ hc ?_
          simp only [↓vp, vz, Nat.reduceLT, Nat.reduceEqDiff, Nat.reduceLeDiff, Nat.reduceAdd, Nat.reduceSub, Nat.reduceMul, Int.reduceBEq, Int.reduceBNe, Int.reduceLT, Int.reduceLE, Int.reduceEq, reduceIte, reduceCtorEq, da, int, boolA]
theorem s40 (l : List RunM) (hl : l.length ≤ 2000000) (H : Heap) : callL ft (.fn (.func 40) [] []) [encR l] H = some (boolA (rightM l),H):=by
 refine call_p (as':=[encR l]) rfl rfl (by simp) ?_
 unfold c40 r40
 simp only [↓vp,vz,Nat.reduceLT,Nat.reduceEqDiff,Nat.reduceLeDiff,Nat.reduceAdd,Nat.reduceSub,Nat.reduceMul,Int.reduceBEq,Int.reduceBNe,Int.reduceLT,Int.reduceLE,Int.reduceEq,reduceIte,reduceCtorEq,da,int,boolA,dr]
 rw [← hx_nil (Heap.empty)]
 refine l40 l hl (fun f' K hm => ?_) (fun f' K hm q2 => ?_) l.length 0 _ _ (by simp) (by rw [prevE_0]; rfl) (by intro j hj h; omega) ?_ ?_ ?_ ?_
 ·unfold c40R1
  simp only [↓vp,vz,Nat.reduceLT,Nat.reduceEqDiff,Nat.reduceLeDiff,Nat.reduceAdd,Nat.reduceSub,Nat.reduceMul,Int.reduceBEq,Int.reduceBNe,Int.reduceLT,Int.reduceLE,Int.reduceEq,reduceIte,reduceCtorEq,da,int,boolA,rt,hm]
 ·simp only [↓vp,vz,Nat.reduceLT,Nat.reduceEqDiff,Nat.reduceLeDiff,Nat.reduceAdd,Nat.reduceSub,Nat.reduceMul,Int.reduceBEq,Int.reduceBNe,Int.reduceLT,Int.reduceLE,Int.reduceEq,reduceIte,reduceCtorEq,da,int,boolA,rt,hm,q2]
 all_goals first | rfl | (simp only [↓vp,vz,Nat.reduceLT,Nat.reduceEqDiff,Nat.reduceLeDiff,Nat.reduceAdd,Nat.reduceSub,Nat.reduceMul,Int.reduceBEq,Int.reduceBNe,Int.reduceLT,Int.reduceLE,Int.reduceEq,reduceIte,reduceCtorEq,da,int,boolA]; done)
theorem k40 {l : List RunM} (hl : l.length ≤ 2000000) {K : Heap} {L : List Blk} {Q : AV → Heap → Prop} : KW ft (.fn (.func 40) [] []) [encR l] (hx K L) Q ↔ Q (boolA (rightM l)) (hx K L):=KW_of (s40 l hl _)
theorem l41 (l : List RunM) (hl : l.length ≤ 2000000) {Q : AExit → Env → Heap → Prop}
   (hex : ∀ f' K, rightM l = true → Q (.exit 0) (mkE 42 f') (hx K []))
   (hret : ∀ f' K, rightM l = false → f' 2 = boolA false → Q .ret (mkE 42 f') (hx K [])) :
   ∀ (d i : Nat) (K : Heap) (f : Nat → AV), i + d = l.length → rightM l = rgtL (prevE l i) (l.drop i) → (∀ j (hj : j < l.length), i = j + 1 → mayM l[j] = true) → f 0 = encR l → f 3 = int i →
    AW ft (.loop c41L0) (mkE 42 f) (hx K []) Q := by
  intro d
  induction d with
  | zero =>
    intro i K f hd hc hm h0 h3
    have g1 : ((i : Int) < l.length) = False := by simp; omega
    rw [AW_loop]
    unfold c41L0
    rw [List.drop_eq_nil_of_le (by omega)] at hc
    simp only [↓vp, vz, Nat.reduceLT, Nat.reduceEqDiff, Nat.reduceLeDiff, Nat.reduceAdd, Nat.reduceSub, Nat.reduceMul, Int.reduceBEq, Int.reduceBNe, Int.reduceLT, Int.reduceLE, Int.reduceEq, reduceIte, reduceCtorEq, da, int, boolA, dr, h0, h3, g1]
    exact hex _ K (by rw [hc]; rfl)
  | succ d ih =>
    intro i K f hd hc hm h0 h3
    have g1 : ((i : Int) < l.length) = True := by simp; omega
    have gi : i < l.length := by omega
    have w1 := wrap_succ (show i < 9223372036854775807 by omega)
    rw [rgt_step gi] at hc
    have km := fun K L Q => @k49 l[i] K L Q
    simp only [runC, int] at km
    rw [AW_loop]
    unfold c41L0
    cases c1 : mayM l[i] with
    | false =>
      rw [c1, Bool.false_and] at hc
      rw [c1] at km
      simp only [↓vp, vz, Nat.reduceLT, Nat.reduceEqDiff, Nat.reduceLeDiff, Nat.reduceAdd, Nat.reduceSub, Nat.reduceMul, Int.reduceBEq, Int.reduceBNe, Int.reduceLT, Int.reduceLE, Int.reduceEq, reduceIte, reduceCtorEq, da, int, boolA, dr, h0, h3, g1, atR gi, cR gi, runC, km]
      refine hret _ _ hc ?_
      simp only [↓vp, vz, Nat.reduceLT, Nat.reduceEqDiff, Nat.reduceLeDiff, Nat.reduceAdd, Nat.reduceSub, Nat.reduceMul, Int.reduceBEq, Int.reduceBNe, Int.reduceLT, Int.reduceLE, Int.reduceEq, reduceIte, reduceCtorEq, da, int, boolA]
    | true =>
      rw [c1, Bool.true_and] at hc
      rw [c1] at km
      cases i with
      | zero =>
        have hb := (mayM_iff.1 c1).1
        rw [prevE_0, decide_eq_true (by omega), Bool.true_and] at hc
        have g2 : (((0 : Nat) : Int) > 0) = False := eq_false (by omega)
        simp only [↓vp, vz, Nat.reduceLT, Nat.reduceEqDiff, Nat.reduceLeDiff, Nat.reduceAdd, Nat.reduceSub, Nat.reduceMul, Int.reduceBEq, Int.reduceBNe, Int.reduceLT, Int.reduceLE, Int.reduceEq, reduceIte, reduceCtorEq, da, int, boolA, dr, h0, h3, g1, g2, atR gi, cR gi, runC, km, w1]
        refine ih 1 _ _ (by omega) hc (fun j hj e => by obtain rfl : j = 0 := by omega
                                                        exact c1) ?_ ?_ <;> simp only [↓vp, vz, Nat.reduceLT, Nat.reduceEqDiff, Nat.reduceLeDiff, Nat.reduceAdd, Nat.reduceSub, Nat.reduceMul, Int.reduceBEq, Int.reduceBNe, Int.reduceLT, Int.reduceLE, Int.reduceEq, reduceIte, reduceCtorEq, da, int, boolA, h0]
      | succ j =>
        have hj : j < l.length := by omega
        have mj := hm j hj rfl
        have mj' := mayM_iff.1 mj
        have g2 : (((j + 1 : Nat) : Int) > 0) = True := eq_true (by omega)
        have w2 : IntKind.i64.wrap (((j + 1 : Nat) : Int) - 1) = (j : Int) := by rw [wrap_i64 (by omega)]; omega
        have w3 : IntKind.i64.wrap (l[j].1 + l[j].2) = endM l[j] := wrap_i64 (by omega)
        have w4 : IntKind.i64.wrap (endM l[j] + 1) = endM l[j] + 1 := wrap_i64 (by unfold endM; omega)
        rw [prevE_s hj] at hc
        by_cases c2 : endM l[j] < l[j + 1].1
        · have d2 : (l[j + 1].1 < endM l[j] + 1) = False := eq_false (by omega)
          simp only [↓vp, vz, Nat.reduceLT, Nat.reduceEqDiff, Nat.reduceLeDiff, Nat.reduceAdd, Nat.reduceSub, Nat.reduceMul, Int.reduceBEq, Int.reduceBNe, Int.reduceLT, Int.reduceLE, Int.reduceEq, reduceIte, reduceCtorEq, da, int, boolA, dr, h0, h3, g1, g2, w2, w3, w4, atR gi, cR gi, atR hj, cR hj, runC, km, d2, w1]
          refine ih (j + 2) _ _ (by omega) (by rw [hc, decide_eq_true c2, Bool.true_and]) (fun k hk e => by obtain rfl : k = j + 1 := by omega
                                                                                                            exact c1) ?_ ?_ <;> simp only [↓vp, vz, Nat.reduceLT, Nat.reduceEqDiff, Nat.reduceLeDiff, Nat.reduceAdd, Nat.reduceSub, Nat.reduceMul, Int.reduceBEq, Int.reduceBNe, Int.reduceLT, Int.reduceLE, Int.reduceEq, reduceIte, reduceCtorEq, da, int, boolA, h0]
        · have d2 : (l[j + 1].1 < endM l[j] + 1) = True := eq_true (by omega)
          rw [decide_eq_false c2, Bool.false_and] at hc
          simp only [↓vp, vz, Nat.reduceLT, Nat.reduceEqDiff, Nat.reduceLeDiff, Nat.reduceAdd, Nat.reduceSub, Nat.reduceMul, Int.reduceBEq, Int.reduceBNe, Int.reduceLT, Int.reduceLE, Int.reduceEq, reduceIte, reduceCtorEq, da, int, boolA, dr, h0, h3, g1, g2, w2, w3, w4, atR gi, cR gi, atR hj, cR hj, runC, km, d2]
          refine hret _ _ hc ?_
          simp only [↓vp, vz, Nat.reduceLT, Nat.reduceEqDiff, Nat.reduceLeDiff, Nat.reduceAdd, Nat.reduceSub, Nat.reduceMul, Int.reduceBEq, Int.reduceBNe, Int.reduceLT, Int.reduceLE, Int.reduceEq, reduceIte, reduceCtorEq, da, int, boolA]
theorem s41 (l : List RunM) (hl : l.length ≤ 2000000) (H : Heap) : callL ft (.fn (.func 41) [] []) [encR l] H = some (boolA (rightM l),H):=by
 refine call_p (as':=[encR l]) rfl rfl (by simp) ?_
 unfold c41 r41
 simp only [↓vp,vz,Nat.reduceLT,Nat.reduceEqDiff,Nat.reduceLeDiff,Nat.reduceAdd,Nat.reduceSub,Nat.reduceMul,Int.reduceBEq,Int.reduceBNe,Int.reduceLT,Int.reduceLE,Int.reduceEq,reduceIte,reduceCtorEq,da,int,boolA,dr]
 rw [← hx_nil (Heap.empty)]
 refine l41 l hl (fun f' K hm => ?_) (fun f' K hm q2 => ?_) l.length 0 _ _ (by simp) (by rw [prevE_0]; rfl) (by intro j hj h; omega) ?_ ?_
 ·unfold c41R1
  simp only [↓vp,vz,Nat.reduceLT,Nat.reduceEqDiff,Nat.reduceLeDiff,Nat.reduceAdd,Nat.reduceSub,Nat.reduceMul,Int.reduceBEq,Int.reduceBNe,Int.reduceLT,Int.reduceLE,Int.reduceEq,reduceIte,reduceCtorEq,da,int,boolA,rt,hm]
 ·simp only [↓vp,vz,Nat.reduceLT,Nat.reduceEqDiff,Nat.reduceLeDiff,Nat.reduceAdd,Nat.reduceSub,Nat.reduceMul,Int.reduceBEq,Int.reduceBNe,Int.reduceLT,Int.reduceLE,Int.reduceEq,reduceIte,reduceCtorEq,da,int,boolA,rt,hm,q2]
 all_goals first | rfl | (simp only [↓vp,vz,Nat.reduceLT,Nat.reduceEqDiff,Nat.reduceLeDiff,Nat.reduceAdd,Nat.reduceSub,Nat.reduceMul,Int.reduceBEq,Int.reduceBNe,Int.reduceLT,Int.reduceLE,Int.reduceEq,reduceIte,reduceCtorEq,da,int,boolA]; done)
def cleanM (l : List RunM) : List RunM:=if rightM l then l else []
theorem cleanM_len (l : List RunM) : (cleanM l).length ≤ l.length:=by unfold cleanM; split <;> simp
theorem s105 (l : List RunM) (hl : l.length ≤ 2000000) (H : Heap) : callL ft (.fn (.func 105) [] []) [encR l] H = some (encR (cleanM l),H):=by
 refine call_p (as':=[encR l]) rfl rfl (by simp) ?_
 unfold c105 r105 cleanM
 have kr:=fun K L Q => @k40 l hl K L Q
 cases e : rightM l with
 | true =>
  rw [e] at kr
  simp only [↓vp,vz,Nat.reduceLT,Nat.reduceEqDiff,Nat.reduceLeDiff,Nat.reduceAdd,Nat.reduceSub,Nat.reduceMul,Int.reduceBEq,Int.reduceBNe,Int.reduceLT,Int.reduceLE,Int.reduceEq,reduceIte,reduceCtorEq,da,int,boolA,rt,dr,kr]
 | false =>
  rw [e] at kr
  simp only [↓vp,vz,Nat.reduceLT,Nat.reduceEqDiff,Nat.reduceLeDiff,Nat.reduceAdd,Nat.reduceSub,Nat.reduceMul,Int.reduceBEq,Int.reduceBNe,Int.reduceLT,Int.reduceLE,Int.reduceEq,reduceIte,reduceCtorEq,da,int,boolA,rt,dr,kr]
  rfl
theorem k105 {l : List RunM} (hl : l.length ≤ 2000000) {K : Heap} {L : List Blk} {Q : AV → Heap → Prop} : KW ft (.fn (.func 105) [] []) [encR l] (hx K L) Q ↔ Q (encR (cleanM l)) (hx K L):=KW_of (s105 l hl _)
end Go.VI
namespace Go.VI
attribute [local congr] AW_congr OW_congr DW_congr NW_congr VW_congr GW_congr PW_congr KW_congr ite_congr' GV_congr CV_congr
def fewR (x : RunM) : Bool:=!(mayM x && decide (600 < endM x))
def sumM (l : List RunM) : Int:=(l.map (·.2)).sum
theorem sumM_cons (x : RunM) (l : List RunM) : sumM (x :: l) = x.2 + sumM l:=rfl
theorem sumM_take {l : List RunM} {i : Nat} (h : i < l.length) : sumM (l.take (i + 1)) = sumM (l.take i) + l[i].2:=by
 unfold sumM
 rw [List.take_succ_eq_append_getElem h,List.map_append,List.sum_append]
 simp
theorem sumM_bd {l : List RunM} (h : ∀ x ∈ l,mayM x = true) : 0 ≤ sumM l ∧ sumM l ≤ 32768 * l.length:=by
 induction l with
 | nil => exact ⟨Int.le_refl _,Int.le_refl _⟩
 | cons x l ih =>
  have h1:=mayM_iff.1 (h x (by simp))
  have h2:=ih fun y hy => h y (by simp [hy])
  rw [sumM_cons,List.length_cons]
  omega
theorem rgt_may : ∀ {l : List RunM} {e : Int},rgtL e l = true → ∀ x ∈ l,mayM x = true
 | [],_,_,x,hx => by cases hx
 | y :: l,e,h,x,hx => by
  simp only [rgtL,Bool.and_eq_true] at h
  rcases List.mem_cons.1 hx with rfl | hx
  ·exact h.1
  ·exact rgt_may h.2.2 x hx
theorem clean_may (l : List RunM) : ∀ x ∈ cleanM l,mayM x = true:=by
 intro x hx
 unfold cleanM at hx
 split at hx
 ·rename_i h
  exact rgt_may h x hx
 ·cases hx
theorem l42 (l : List RunM) (hl : l.length ≤ 2000000) (hm : ∀ x ∈ l, mayM x = true) {Q : AExit → Env → Heap → Prop}
   (hex : ∀ f' K, f' 3 = int (sumM l) → Q (.exit 0) (mkE 19 f') (hx K [])) :
   ∀ (d i : Nat) (K : Heap) (f : Nat → AV), i + d = l.length → f 3 = int (sumM (l.take i)) → f 7 = encR l → f 8 = int l.length → f 9 = int i →
    AW ft (.loop c42L0) (mkE 19 f) (hx K []) Q := by
  intro d
  induction d with
  | zero =>
    intro i K f hd h3 h7 h8 h9
    have g1 : ((i : Int) < l.length) = False := by simp; omega
    rw [AW_loop]
    unfold c42L0
    rw [List.take_of_length_le (by omega)] at h3
    simp only [↓vp, vz, Nat.reduceLT, Nat.reduceEqDiff, Nat.reduceLeDiff, Nat.reduceAdd, Nat.reduceSub, Nat.reduceMul, Int.reduceBEq, Int.reduceBNe, Int.reduceLT, Int.reduceLE, Int.reduceEq, reduceIte, reduceCtorEq, da, int, boolA, h8, h9, g1]
    refine hex _ K ?_
    simp only [↓vp, vz, Nat.reduceLT, Nat.reduceEqDiff, Nat.reduceLeDiff, Nat.reduceAdd, Nat.reduceSub, Nat.reduceMul, Int.reduceBEq, Int.reduceBNe, Int.reduceLT, Int.reduceLE, Int.reduceEq, reduceIte, reduceCtorEq, da, int, boolA, h3]
  | succ d ih =>
    intro i K f hd h3 h7 h8 h9
    have g1 : ((i : Int) < l.length) = True := by simp; omega
    have gi : i < l.length := by omega
    have w1 := wrap_succ (show i < 9223372036854775807 by omega)
    have b1 := sumM_bd (l := l.take (i + 1)) fun x hx => hm x (List.mem_of_mem_take hx)
    have b2 : (l.take (i + 1)).length ≤ 2000000 := by simp; omega
    have w2 : IntKind.i64.wrap (sumM (l.take i) + l[i].2) = sumM (l.take (i + 1)) := by
      rw [← sumM_take gi]
      exact wrap_i64 (by omega)
    rw [AW_loop]
    unfold c42L0
    simp only [↓vp, vz, Nat.reduceLT, Nat.reduceEqDiff, Nat.reduceLeDiff, Nat.reduceAdd, Nat.reduceSub, Nat.reduceMul, Int.reduceBEq, Int.reduceBNe, Int.reduceLT, Int.reduceLE, Int.reduceEq, reduceIte, reduceCtorEq, da, int, boolA, dr, h3, h7, h8, h9, g1, atR gi, cR gi, runC, w1, w2]
    rw [← hx_nil (hx K _)]
    refine ih (i + 1) _ _ (by omega) ?_ ?_ ?_ ?_ <;> simp only [↓vp, vz, Nat.reduceLT, Nat.reduceEqDiff, Nat.reduceLeDiff, Nat.reduceAdd, Nat.reduceSub, Nat.reduceMul, Int.reduceBEq, Int.reduceBNe, Int.reduceLT, Int.reduceLE, Int.reduceEq, reduceIte, reduceCtorEq, da, int, boolA, h7, h8]
def countM (l : List RunM) : Int:=sumM (cleanM l)
theorem s42 (l : List RunM) (hl : l.length ≤ 2000000) (H : Heap) : callL ft (.fn (.func 42) [] []) [encR l] H = some (int (countM l),H):=by
 refine call_p (as':=[encR l]) rfl rfl (by simp) ?_
 unfold c42 r42
 have kc:=fun K L Q => @k105 l hl K L Q
 have hl2:=cleanM_len l
 simp only [↓vp,vz,Nat.reduceLT,Nat.reduceEqDiff,Nat.reduceLeDiff,Nat.reduceAdd,Nat.reduceSub,Nat.reduceMul,Int.reduceBEq,Int.reduceBNe,Int.reduceLT,Int.reduceLE,Int.reduceEq,reduceIte,reduceCtorEq,da,int,boolA,dr,kc]
 rw [← hx_nil (Heap.empty)]
 refine l42 (cleanM l) (by omega) (clean_may l) (fun f' K q3 => ?_) (cleanM l).length 0 _ _ (by simp) ?_ ?_ ?_ ?_
 ·unfold c42R1
  simp only [↓vp,vz,Nat.reduceLT,Nat.reduceEqDiff,Nat.reduceLeDiff,Nat.reduceAdd,Nat.reduceSub,Nat.reduceMul,Int.reduceBEq,Int.reduceBNe,Int.reduceLT,Int.reduceLE,Int.reduceEq,reduceIte,reduceCtorEq,da,int,boolA,rt,q3]
  rfl
 all_goals first | rfl | (simp only [↓vp,vz,Nat.reduceLT,Nat.reduceEqDiff,Nat.reduceLeDiff,Nat.reduceAdd,Nat.reduceSub,Nat.reduceMul,Int.reduceBEq,Int.reduceBNe,Int.reduceLT,Int.reduceLE,Int.reduceEq,reduceIte,reduceCtorEq,da,int,boolA]; done)
def lastM (l : List RunM) : RunM:=l.getLast?.getD (0,0)
theorem s108 (l : List RunM) (hl : l.length ≤ 2000000) (H : Heap) : callL ft (.fn (.func 108) [] []) [encR l] H = some (.tup [.agg (runC (lastM l)),boolA (!l.isEmpty)],H):=by
 refine call_p (as':=[encR l]) rfl rfl (by simp) ?_
 unfold c108 r108
 by_cases h0 : l = []
 ·subst h0
  have g1 : (((([] : List RunM).length : Nat) : Int) = 0) = True:=eq_true rfl
  simp only [↓vp,vz,Nat.reduceLT,Nat.reduceEqDiff,Nat.reduceLeDiff,Nat.reduceAdd,Nat.reduceSub,Nat.reduceMul,Int.reduceBEq,Int.reduceBNe,Int.reduceLT,Int.reduceLE,Int.reduceEq,reduceIte,reduceCtorEq,da,int,boolA,rt,dr,g1]
  rfl
 ·have hp : 0 < l.length:=List.length_pos_iff.2 h0
  have g1 : ((l.length : Int) == 0) = false:=by simp; omega
  have gi : l.length - 1 < l.length:=by omega
  have w2 : IntKind.i64.wrap ((l.length : Int) - 1) = ((l.length - 1 : Nat) : Int):=by rw [wrap_i64 (by omega)]; omega
  have e : lastM l = l[l.length - 1]:=by
   unfold lastM
   rw [List.getLast?_eq_getElem?,List.getElem?_eq_getElem gi]
   rfl
  have e2 : l.isEmpty = false:=by simpa using h0
  rw [e,e2]
  simp only [↓vp,vz,Nat.reduceLT,Nat.reduceEqDiff,Nat.reduceLeDiff,Nat.reduceAdd,Nat.reduceSub,Nat.reduceMul,Int.reduceBEq,Int.reduceBNe,Int.reduceLT,Int.reduceLE,Int.reduceEq,reduceIte,reduceCtorEq,da,int,boolA,rt,dr,g1,w2,atR gi,cR gi,runC]
  try rfl
theorem k108 {l : List RunM} (hl : l.length ≤ 2000000) {K : Heap} {L : List Blk} {Q : AV → Heap → Prop} : KW ft (.fn (.func 108) [] []) [encR l] (hx K L) Q ↔ Q (.tup [.agg (runC (lastM l)),boolA (!l.isEmpty)]) (hx K L):=KW_of (s108 l hl _)
def endsM (l : List RunM) : Int:=if (cleanM l).isEmpty then 0 else endM (lastM (cleanM l))
theorem s43 (l : List RunM) (hl : l.length ≤ 2000000) (H : Heap) : callL ft (.fn (.func 43) [] []) [encR l] H = some (int (endsM l),H):=by
 refine call_p (as':=[encR l]) rfl rfl (by simp) ?_
 unfold c43 r43 endsM
 have kc:=fun K L Q => @k105 l hl K L Q
 have hl2:=cleanM_len l
 have kl:=fun K L Q => @k108 (cleanM l) (by omega) K L Q
 simp only [runC,int] at kl
 cases e : (cleanM l).isEmpty with
 | true =>
  rw [e] at kl
  simp only [↓vp,vz,Nat.reduceLT,Nat.reduceEqDiff,Nat.reduceLeDiff,Nat.reduceAdd,Nat.reduceSub,Nat.reduceMul,Int.reduceBEq,Int.reduceBNe,Int.reduceLT,Int.reduceLE,Int.reduceEq,reduceIte,reduceCtorEq,da,int,boolA,rt,dr,kc,kl]
 | false =>
  rw [e] at kl
  have hm : mayM (lastM (cleanM l)) = true:=by
   refine clean_may l _ ?_
   unfold lastM
   rw [List.getLast?_eq_some_getLast (by simpa using e)]
   exact List.getLast_mem _
  have ke:=fun K L Q => @k107 (lastM (cleanM l)) (may_end hm) K L Q
  simp only [runC,int] at ke
  simp only [↓vp,vz,Nat.reduceLT,Nat.reduceEqDiff,Nat.reduceLeDiff,Nat.reduceAdd,Nat.reduceSub,Nat.reduceMul,Int.reduceBEq,Int.reduceBNe,Int.reduceLT,Int.reduceLE,Int.reduceEq,reduceIte,reduceCtorEq,da,int,boolA,rt,dr,kc,kl,ke]
theorem l45 (a b : List RunM) (hl : a.length ≤ 2000000) (hab : a.length = b.length) {Q : AExit → Env → Heap → Prop}
   (hex : ∀ f' K, a = b → Q (.exit 0) (mkE 26 f') (hx K []))
   (hret : ∀ f' K, a ≠ b → f' 4 = boolA false → Q .ret (mkE 26 f') (hx K [])) :
   ∀ (d i : Nat) (K : Heap) (f : Nat → AV), i + d = a.length → a.take i = b.take i → f 0 = encR a → f 1 = encR b → f 5 = int i →
    AW ft (.loop c45L0) (mkE 26 f) (hx K []) Q := by
  intro d
  induction d with
  | zero =>
    intro i K f hd hc h0 h1 h5
    have g1 : ((i : Int) < a.length) = False := by simp; omega
    rw [AW_loop]
    unfold c45L0
    rw [List.take_of_length_le (by omega), List.take_of_length_le (by omega)] at hc
    simp only [↓vp, vz, Nat.reduceLT, Nat.reduceEqDiff, Nat.reduceLeDiff, Nat.reduceAdd, Nat.reduceSub, Nat.reduceMul, Int.reduceBEq, Int.reduceBNe, Int.reduceLT, Int.reduceLE, Int.reduceEq, reduceIte, reduceCtorEq, da, int, boolA, dr, h0, h1, h5, g1]
    exact hex _ K hc
  | succ d ih =>
    intro i K f hd hc h0 h1 h5
    have g1 : ((i : Int) < a.length) = True := by simp; omega
    have gi : i < a.length := by omega
    have gj : i < b.length := by omega
    have w1 := wrap_succ (show i < 9223372036854775807 by omega)
    rw [AW_loop]
    unfold c45L0
    by_cases c1 : a[i] = b[i]
    · have hs : eqsA [0, 0] [.sc (.int .i64 a[i].1), .sc (.int .i64 a[i].2)] [.sc (.int .i64 b[i].1), .sc (.int .i64 b[i].2)] = some true := by
        rw [c1]
        simp [eqsA, scEq]
      simp only [↓vp, vz, Nat.reduceLT, Nat.reduceEqDiff, Nat.reduceLeDiff, Nat.reduceAdd, Nat.reduceSub, Nat.reduceMul, Int.reduceBEq, Int.reduceBNe, Int.reduceLT, Int.reduceLE, Int.reduceEq, reduceIte, reduceCtorEq, da, int, boolA, dr, h0, h1, h5, g1, atR gi, cR gi, atR gj, cR gj, runC, hs, w1]
      refine ih (i + 1) _ _ (by omega) ?_ ?_ ?_ ?_
      · rw [List.take_succ_eq_append_getElem gi, List.take_succ_eq_append_getElem gj, hc, c1]
      all_goals simp only [↓vp, vz, Nat.reduceLT, Nat.reduceEqDiff, Nat.reduceLeDiff, Nat.reduceAdd, Nat.reduceSub, Nat.reduceMul, Int.reduceBEq, Int.reduceBNe, Int.reduceLT, Int.reduceLE, Int.reduceEq, reduceIte, reduceCtorEq, da, int, boolA, h0, h1]
    · have hs : eqsA [0, 0] [.sc (.int .i64 a[i].1), .sc (.int .i64 a[i].2)] [.sc (.int .i64 b[i].1), .sc (.int .i64 b[i].2)] = some false := by
        by_cases e1 : a[i].1 = b[i].1
        · have e2 : a[i].2 ≠ b[i].2 := fun e => c1 (Prod.ext e1 e)
          simp [eqsA, scEq, e1, e2]
        · simp [eqsA, scEq, e1]
      simp only [↓vp, vz, Nat.reduceLT, Nat.reduceEqDiff, Nat.reduceLeDiff, Nat.reduceAdd, Nat.reduceSub, Nat.reduceMul, Int.reduceBEq, Int.reduceBNe, Int.reduceLT, Int.reduceLE, Int.reduceEq, reduceIte, reduceCtorEq, da, int, boolA, dr, h0, h1, h5, g1, atR gi, cR gi, atR gj, cR gj, runC, hs]
      refine hret _ _ (fun e => c1 (by subst e; rfl)) ?_
      simp only [↓vp, vz, Nat.reduceLT, Nat.reduceEqDiff, Nat.reduceLeDiff, Nat.reduceAdd, Nat.reduceSub, Nat.reduceMul, Int.reduceBEq, Int.reduceBNe, Int.reduceLT, Int.reduceLE, Int.reduceEq, reduceIte, reduceCtorEq, da, int, boolA]
def sameM (a b : List RunM) : Bool:=decide (a = b)
theorem s45 (a b : List RunM) (hl : a.length ≤ 2000000) (H : Heap) : callL ft (.fn (.func 45) [] []) [encR a,encR b] H = some (boolA (sameM a b),H):=by
 refine call_p (as':=[encR a,encR b]) rfl rfl (by simp) ?_
 unfold c45 r45 sameM
 by_cases c1 : a.length = b.length
 ·have d1 : ((a.length : Int) != b.length) = false:=by simp [c1]
  simp only [↓vp,vz,Nat.reduceLT,Nat.reduceEqDiff,Nat.reduceLeDiff,Nat.reduceAdd,Nat.reduceSub,Nat.reduceMul,Int.reduceBEq,Int.reduceBNe,Int.reduceLT,Int.reduceLE,Int.reduceEq,reduceIte,reduceCtorEq,da,int,boolA,dr,d1]
  rw [← hx_nil (Heap.empty)]
  refine l45 a b hl c1 (fun f' K hm => ?_) (fun f' K hm q4 => ?_) a.length 0 _ _ (by simp) rfl ?_ ?_ ?_
  ·unfold c45R1
   rw [decide_eq_true hm]
   simp only [↓vp,vz,Nat.reduceLT,Nat.reduceEqDiff,Nat.reduceLeDiff,Nat.reduceAdd,Nat.reduceSub,Nat.reduceMul,Int.reduceBEq,Int.reduceBNe,Int.reduceLT,Int.reduceLE,Int.reduceEq,reduceIte,reduceCtorEq,da,int,boolA,rt]
  ·rw [decide_eq_false hm]
   simp only [↓vp,vz,Nat.reduceLT,Nat.reduceEqDiff,Nat.reduceLeDiff,Nat.reduceAdd,Nat.reduceSub,Nat.reduceMul,Int.reduceBEq,Int.reduceBNe,Int.reduceLT,Int.reduceLE,Int.reduceEq,reduceIte,reduceCtorEq,da,int,boolA,rt,q4]
  all_goals first | rfl | (simp only [↓vp,vz,Nat.reduceLT,Nat.reduceEqDiff,Nat.reduceLeDiff,Nat.reduceAdd,Nat.reduceSub,Nat.reduceMul,Int.reduceBEq,Int.reduceBNe,Int.reduceLT,Int.reduceLE,Int.reduceEq,reduceIte,reduceCtorEq,da,int,boolA]; done)
 ·have d1 : ((a.length : Int) != b.length) = true:=by simp; omega
  rw [decide_eq_false (fun e => c1 (by rw [e]))]
  simp only [↓vp,vz,Nat.reduceLT,Nat.reduceEqDiff,Nat.reduceLeDiff,Nat.reduceAdd,Nat.reduceSub,Nat.reduceMul,Int.reduceBEq,Int.reduceBNe,Int.reduceLT,Int.reduceLE,Int.reduceEq,reduceIte,reduceCtorEq,da,int,boolA,rt,dr,d1]
end Go.VI
namespace Go.VI
attribute [local congr] AW_congr OW_congr DW_congr NW_congr VW_congr GW_congr PW_congr KW_congr ite_congr' GV_congr CV_congr
def idxM (p : RunM → Bool) : Nat → List RunM → Int
 | _,[] => -1
 | i,x :: r => if p x then (i : Int) else idxM p (i + 1) r
theorem idxM_neg (p : RunM → Bool) : ∀ (l : List RunM) (i : Nat),(decide (0 ≤ idxM p i l) = l.any p) ∧ (-1 ≤ idxM p i l ∧ idxM p i l < i + l.length ∨ idxM p i l = -1)
 | [],i => ⟨by simp [idxM],.inr rfl⟩
 | x :: r,i => by
  unfold idxM
  cases e : p x with
  | true => simp [e]; omega
  | false =>
   have h:=idxM_neg p r (i + 1)
   simp [e] at h ⊢
   refine ⟨h.1,?_⟩
   omega
section
variable {T : FT} (h116 : T 116 = some (.go true 19 r116 c116))
theorem l116 (G : AV) (p : RunM → Bool) (l : List RunM) (hl : l.length ≤ 2000000) (hG : ∀ x ∈ l, ∀ {K : Heap} {L : List Blk} {Q : AV → Heap → Prop}, KW T G [.agg (runC x)] (hx K L) Q ↔ Q (boolA (p x)) (hx K L)) {Q : AExit → Env → Heap → Prop}
   (hex : ∀ f', idxM p 0 l = -1 → Q (.exit 0) (mkE 19 f') (hx Heap.empty [])) (hret : ∀ f', f' 4 = int (idxM p 0 l) → Q .ret (mkE 19 f') (hx Heap.empty [])) :
   ∀ (d i : Nat) (f : Nat → AV), i + d = l.length → idxM p 0 l = idxM p i (l.drop i) → f 0 = encR l → f 1 = G → f 7 = int l.length → f 8 = int i →
    AW T (.loop c116L0) (mkE 19 f) (hx Heap.empty []) Q := by
  intro d
  induction d with
  | zero =>
    intro i f hd hc h0 h1 h7 h8
    have g1 : ((i : Int) < l.length) = False := by simp; omega
    rw [AW_loop]
    unfold c116L0
    rw [List.drop_eq_nil_of_le (by omega)] at hc
    simp only [↓vp, vz, Nat.reduceLT, Nat.reduceEqDiff, Nat.reduceLeDiff, Nat.reduceAdd, Nat.reduceSub, Nat.reduceMul, Int.reduceBEq, Int.reduceBNe, Int.reduceLT, Int.reduceLE, Int.reduceEq, reduceIte, reduceCtorEq, da, int, boolA, h7, h8, g1]
    exact hex _ (by rw [hc]; rfl)
  | succ d ih =>
    intro i f hd hc h0 h1 h7 h8
    have g1 : ((i : Int) < l.length) = True := by simp; omega
    have gi : i < l.length := by omega
    have w1 := wrap_succ (show i < 9223372036854775807 by omega)
    have kk := fun K L Q => @hG l[i] (List.getElem_mem gi) K L Q
    simp only [runC, int] at kk
    rw [AW_loop]
    unfold c116L0
    rw [List.drop_eq_getElem_cons gi, idxM] at hc
    cases e : p l[i] with
    | true =>
      rw [e, if_pos rfl] at hc
      simp only [↓vp, vz, Nat.reduceLT, Nat.reduceEqDiff, Nat.reduceLeDiff, Nat.reduceAdd, Nat.reduceSub, Nat.reduceMul, Int.reduceBEq, Int.reduceBNe, Int.reduceLT, Int.reduceLE, Int.reduceEq, reduceIte, reduceCtorEq, da, int, boolA, dr, h0, h1, h7, h8, g1, atR gi, cR gi, runC, kk, e, w1]
      refine hret _ ?_
      simp only [↓vp, vz, Nat.reduceLT, Nat.reduceEqDiff, Nat.reduceLeDiff, Nat.reduceAdd, Nat.reduceSub, Nat.reduceMul, Int.reduceBEq, Int.reduceBNe, Int.reduceLT, Int.reduceLE, Int.reduceEq, reduceIte, reduceCtorEq, da, int, boolA, hc]
    | false =>
      rw [e, if_neg (by simp)] at hc
      simp only [↓vp, vz, Nat.reduceLT, Nat.reduceEqDiff, Nat.reduceLeDiff, Nat.reduceAdd, Nat.reduceSub, Nat.reduceMul, Int.reduceBEq, Int.reduceBNe, Int.reduceLT, Int.reduceLE, Int.reduceEq, reduceIte, reduceCtorEq, da, int, boolA, dr, h0, h1, h7, h8, g1, atR gi, cR gi, runC, kk, e, w1]
      refine ih (i + 1) _ (by omega) hc ?_ ?_ ?_ ?_ <;> simp only [↓vp, vz, Nat.reduceLT, Nat.reduceEqDiff, Nat.reduceLeDiff, Nat.reduceAdd, Nat.reduceSub, Nat.reduceMul, Int.reduceBEq, Int.reduceBNe, Int.reduceLT, Int.reduceLE, Int.reduceEq, reduceIte, reduceCtorEq, da, int, boolA, h0, h1, h7]
include h116 in
theorem s116 (G : AV) (p : RunM → Bool) (l : List RunM) (hl : l.length ≤ 2000000) (hG : ∀ x ∈ l, ∀ {K : Heap} {L : List Blk} {Q : AV → Heap → Prop}, KW T G [.agg (runC x)] (hx K L) Q ↔ Q (boolA (p x)) (hx K L))
   {args : List AV} {H H1 : Heap} (hz : frzCells H args = some ([encR l, G], H1)) : callL T (.fn (.func 116) [] []) args H = some (int (idxM p 0 l), H1) := by
  refine call_p (as' := [encR l, G]) h116 (by simpa using hz) (by simp) ?_
  unfold c116 r116
  simp only [↓vp, vz, Nat.reduceLT, Nat.reduceEqDiff, Nat.reduceLeDiff, Nat.reduceAdd, Nat.reduceSub, Nat.reduceMul, Int.reduceBEq, Int.reduceBNe, Int.reduceLT, Int.reduceLE, Int.reduceEq, reduceIte, reduceCtorEq, da, int, boolA, dr]
  refine l116 G p l hl hG (fun f' hm => ?_) (fun f' h4 => ?_) l.length 0 _ (by simp) rfl ?_ ?_ ?_ ?_
  · unfold c116R1
    simp only [↓vp, vz, Nat.reduceLT, Nat.reduceEqDiff, Nat.reduceLeDiff, Nat.reduceAdd, Nat.reduceSub, Nat.reduceMul, Int.reduceBEq, Int.reduceBNe, Int.reduceLT, Int.reduceLE, Int.reduceEq, reduceIte, reduceCtorEq, da, int, boolA, rt, hm]
  · simp only [↓vp, vz, Nat.reduceLT, Nat.reduceEqDiff, Nat.reduceLeDiff, Nat.reduceAdd, Nat.reduceSub, Nat.reduceMul, Int.reduceBEq, Int.reduceBNe, Int.reduceLT, Int.reduceLE, Int.reduceEq, reduceIte, reduceCtorEq, da, int, boolA, rt, h4]
  all_goals first | rfl | (simp only [↓vp, vz, Nat.reduceLT, Nat.reduceEqDiff, Nat.reduceLeDiff, Nat.reduceAdd, Nat.reduceSub, Nat.reduceMul, Int.reduceBEq, Int.reduceBNe, Int.reduceLT, Int.reduceLE, Int.reduceEq, reduceIte, reduceCtorEq, da, int, boolA]; done)
include h116 in
theorem s114 (h114 : T 114 = some (.go true 9 r114 c114)) (l : List RunM) (hl : l.length ≤ 2000000) (G : AV) (hfz : ∀ H, frzCells H [encR l, G] = some ([encR l, G], H)) (p : RunM → Bool) (hG : ∀ x ∈ l, ∀ {K : Heap} {L : List Blk} {Q : AV → Heap → Prop}, KW T G [.agg (runC x)] (hx K L) Q ↔ Q (boolA (p x)) (hx K L))
   {args : List AV} {H H1 : Heap} (hz : frzCells H args = some ([encR l, G], H1)) : callL T (.fn (.func 114) [] []) args H = some (boolA (l.any p), H1) := by
  refine call_p (as' := [encR l, G]) h114 (by simpa using hz) (by simp) ?_
  unfold c114 r114
  have kk := fun H Q => @KW_of T _ _ _ Q _ _ (s116 h116 G p l hl hG (hfz H))
  simp only [int] at kk
  have e := (idxM_neg p l 0).1
  rw [← e]
  simp only [↓vp, vz, Nat.reduceLT, Nat.reduceEqDiff, Nat.reduceLeDiff, Nat.reduceAdd, Nat.reduceSub, Nat.reduceMul, Int.reduceBEq, Int.reduceBNe, Int.reduceLT, Int.reduceLE, Int.reduceEq, reduceIte, reduceCtorEq, da, int, boolA, rt, kk]
end
def endW (x : RunM) : Int:=IntKind.i64.wrap (x.1 + x.2)
theorem endW_may {x : RunM} (h : mayM x = true) : endW x = endM x:=by
 unfold endW
 exact wrap_i64 (by have:=mayM_iff.1 h; omega)
theorem s107w (x : RunM) (H : Heap) : callL ft (.fn (.func 107) [] []) [.agg (runC x)] H = some (int (endW x),H):=by
 refine call_p (as':=[.agg (runC x)]) rfl rfl (by simp) ?_
 unfold c107 r107 endW
 simp only [↓vp,vz,Nat.reduceLT,Nat.reduceEqDiff,Nat.reduceLeDiff,Nat.reduceAdd,Nat.reduceSub,Nat.reduceMul,Int.reduceBEq,Int.reduceBNe,Int.reduceLT,Int.reduceLE,Int.reduceEq,reduceIte,reduceCtorEq,da,int,boolA,rt,dr,runC]
theorem k107w {x : RunM} {K : Heap} {L : List Blk} {Q : AV → Heap → Prop} : KW ft (.fn (.func 107) [] []) [.agg (runC x)] (hx K L) Q ↔ Q (int (endW x)) (hx K L):=KW_of (s107w x _)
def overF (x : RunM) : AV:=.fn (.func 158) [] [.pim [runC x] 0 0]
def overB (x y : RunM) : Bool:=decide (y.1 < endW x) && decide (x.1 < endW y)
theorem s158 (x y : RunM) (H : Heap) : callL ft (overF x) [.agg (runC y)] H = some (boolA (overB x y),H):=by
 refine call_p (as':=[.agg (runC y),.pim [runC x] 0 0]) rfl rfl (by simp) ?_
 unfold c158 r158 overB
 have kx:=fun K L Q => @k107w x K L Q
 have ky:=fun K L Q => @k107w y K L Q
 have px:=p107 x
 have py:=p107 y
 simp only [runC,int] at kx ky px py
 have cp : ∀ H,cellsAt H (.pim [[.sc (.int .i64 x.1),.sc (.int .i64 x.2)]] 0 0) 2 = some [.sc (.int .i64 x.1),.sc (.int .i64 x.2)]:=fun _ => rfl
 have cq : ∀ H,cellsAt H (.pim [[.sc (.int .i64 x.1),.sc (.int .i64 x.2)]] 0 0) 1 = some [.sc (.int .i64 x.1)]:=fun _ => rfl
 by_cases e : y.1 < endW x
 ·simp only [↓vp,vz,Nat.reduceLT,Nat.reduceEqDiff,Nat.reduceLeDiff,Nat.reduceAdd,Nat.reduceSub,Nat.reduceMul,Int.reduceBEq,Int.reduceBNe,Int.reduceLT,Int.reduceLE,Int.reduceEq,reduceIte,reduceCtorEq,da,int,boolA,rt,dr,runC,kx,ky,px,py,cp,cq,e]
 ·have ef : (decide (y.1 < endW x) && decide (x.1 < endW y)) = false:=by rw [decide_eq_false e]; rfl
  rw [ef]
  simp only [↓vp,vz,Nat.reduceLT,Nat.reduceEqDiff,Nat.reduceLeDiff,Nat.reduceAdd,Nat.reduceSub,Nat.reduceMul,Int.reduceBEq,Int.reduceBNe,Int.reduceLT,Int.reduceLE,Int.reduceEq,reduceIte,reduceCtorEq,da,int,boolA,rt,dr,runC,kx,ky,px,py,cp,cq,e]
noncomputable def ftO : FT
 | 109 => some (.go true 8 r109 c109)
 | k => ft k
theorem ftO_sub : Sub ft ftO:=by
 intro k d h
 unfold ftO
 split
 ·cases h
 ·exact h
def overI (l : List RunM) (x : RunM) : Int:=idxM (overB x) 0 l
theorem s109 (l : List RunM) (hl : l.length ≤ 2000000) (x : RunM) (H : Heap) : callL ftO (.fn (.func 109) [] []) [encR l,.agg (runC x)] H = some (int (overI l x),H):=by
 refine call_p (as':=[encR l,.agg (runC x)]) rfl rfl (by simp) ?_
 unfold c109 r109 overI
 have hz : frzCells (hx Heap.empty [.box false (runC x)]) [encR l,.fn (.func 158) [] [.ptr 0 0 0]] = some ([encR l,overF x],hx Heap.empty [.box true (runC x)]):=rfl
 have k2:=fun Q => @KW_of ftO _ _ _ Q _ _ (s116 (T:=ftO) rfl (overF x) (overB x) l hl (fun y _ K L Q => KW_of (callL_sub ftO_sub (s158 x y _))) hz)
 simp only [runC,int] at k2
 simp only [↓vp,vz,Nat.reduceLT,Nat.reduceEqDiff,Nat.reduceLeDiff,Nat.reduceAdd,Nat.reduceSub,Nat.reduceMul,Int.reduceBEq,Int.reduceBNe,Int.reduceLT,Int.reduceLE,Int.reduceEq,reduceIte,reduceCtorEq,da,int,boolA,rt,dr,runC]
 rw [k2]
 simp only [↓vp,vz,Nat.reduceLT,Nat.reduceEqDiff,Nat.reduceLeDiff,Nat.reduceAdd,Nat.reduceSub,Nat.reduceMul,Int.reduceBEq,Int.reduceBNe,Int.reduceLT,Int.reduceLE,Int.reduceEq,reduceIte,reduceCtorEq,da,int,boolA,rt,dr,runC]
noncomputable def overP : List AV → Heap → Option (AV × Heap):=roP (goP ftO 109)
theorem overP_at {l : List RunM} (hl : l.length ≤ 2000000) (x : RunM) {S : AV} {H H1 : Heap} (hz : frzCells H [S,.agg (runC x)] = some ([encR l,.agg (runC x)],H1)) : overP [S,.agg (runC x)] H = some (int (overI l x),H):=by
 unfold overP roP goP
 have hc : closedL [encR l,.agg (runC x)] = true:=rfl
 rw [hz]
 simp only [Option.bind_some,hc,if_true,s109 l hl x,Option.map_some,int]
noncomputable def ftM : FT
 | 109 => some (.prim overP)
 | k => ft k
theorem ftM_sub : Sub ft ftM:=by
 intro k d h
 unfold ftM
 split
 ·cases h
 ·exact h
theorem kM_of {f : AV} {args : List AV} {K : AV → Heap → Prop} {v : AV} {H H' : Heap} (h : callL ft f args H = some (v,H')) : KW ftM f args H K ↔ K v H':=KW_of (callL_sub ftM_sub h)
theorem k109 {l : List RunM} (hl : l.length ≤ 2000000) (x : RunM) {S : AV} {H H1 : Heap} (hz : frzCells H [S,.agg (runC x)] = some ([encR l,.agg (runC x)],H1)) {Q : AV → Heap → Prop} : KW ftM (.fn (.func 109) [] []) [S,.agg (runC x)] H Q ↔ Q (int (overI l x)) H :=
 k_prim rfl (overP_at hl x hz) (Nat.le_refl _)
theorem k109l {l : List RunM} (hl : l.length ≤ 2000000) {x : RunM} {K : Heap} {L : List Blk} {Q : AV → Heap → Prop} : KW ftM (.fn (.func 109) [] []) [encR l,.agg (runC x)] (hx K L) Q ↔ Q (int (overI l x)) (hx K L):=k109 hl x rfl
end Go.VI
namespace Go.VI
attribute [local congr] AW_congr OW_congr DW_congr NW_congr VW_congr GW_congr PW_congr KW_congr ite_congr' GV_congr CV_congr
theorem cells_row {H : Heap} {id i off n : Nat} {fz : Bool} {sz : Nat} {rs : List (List AV)} {r : List AV} (hg : H.get id = some (.row fz sz rs)) (hr : rs[i]? = some r) : cellsAt H (.ptr id i off) n = if off + n ≤ r.length then some ((r.drop off).take n) else none:=by
 simp only [cellsAt,hg,hr]
theorem ia_row {H : Heap} {id len sz i : Nat} {fz : Bool} {rs : List (List AV)} (hg : H.get id = some (.row fz sz rs)) (hi : i < len) : iaddrA H none sz (.sl id 0 len) (i : Int) = some (.ptr id i 0):=by
 have hr : rowSz H id = some sz:=by unfold rowSz; rw [hg]
 show (if 0 ≤ (i : Int) ∧ (i : Int) < (len : Int) ∧ rowSz H id = some sz then some (AV.ptr id (0 + (i : Int).toNat) 0) else none) = _
 rw [if_pos ⟨by omega,by omega,hr⟩]
 simp
theorem ia_rr {H : Heap} {id i : Nat} {fz : Bool} {l : List RunM} (hg : H.get id = some (.row fz 2 (l.map runC))) (hi : i < l.length) : iaddrA H none 2 (.sl id 0 l.length) (i : Int) = some (.ptr id i 0):=ia_row hg hi
theorem c_rr {H : Heap} {id i off n : Nat} {fz : Bool} {l : List RunM} (hg : H.get id = some (.row fz 2 (l.map runC))) (hi : i < l.length) : cellsAt H (.ptr id i off) n = if off + n ≤ 2 then some (((runC l[i]).drop off).take n) else none:=by
 rw [cells_row hg (r:=runC l[i]) (by rw [List.getElem?_map,List.getElem?_eq_getElem hi]; rfl)]
 rfl
theorem len_rep {K H : Heap} {sz : Nat} {S : AV} {rows : List (List AV)} (h : Rep K sz S rows) : lenV H 0 S = some (.sc (.int .i64 (rows.length : Int)),H):=by
 rcases h with ⟨rfl,rfl⟩ | ⟨id,rfl,_⟩ <;> rfl
def mxM (a b : Int) : Int:=if b > a then b else a
def joinS (acc : List RunM) (x : RunM) : List RunM :=
 match acc.getLast? with
 | none => [x]
 | some y => if x.1 > endM y then acc ++ [x] else acc.set (acc.length - 1) (y.1,mxM (endM y) (endM x) - y.1)
theorem joinS_nil (x : RunM) : joinS [] x = [] ++ [x]:=rfl
theorem joinS_some {acc : List RunM} {x : RunM} {m : Nat} (h : acc.length = m + 1) : joinS acc x = if x.1 > endM (acc[m]'(by omega)) then acc ++ [x] else acc.set m ((acc[m]'(by omega)).1,mxM (endM (acc[m]'(by omega))) (endM x) - (acc[m]'(by omega)).1):=by
 have e : acc.length - 1 = m:=by omega
 unfold joinS
 rw [List.getLast?_eq_getElem?,e,List.getElem?_eq_getElem (by omega)]
theorem joinS_may {acc : List RunM} {x : RunM} (h : ∀ y ∈ acc,mayM y = true) (hx : mayM x = true) : ∀ y ∈ joinS acc x,mayM y = true:=by
 intro z hz
 rcases Nat.eq_zero_or_pos acc.length with h0 | h0
 ·obtain rfl : acc = []:=List.eq_nil_of_length_eq_zero h0
  rw [joinS_nil] at hz
  simp at hz
  rw [hz]; exact hx
 ·obtain ⟨m,hm⟩ : ∃ m,acc.length = m + 1:=⟨acc.length - 1,by omega⟩
  rw [joinS_some hm] at hz
  split at hz
  ·rcases List.mem_append.1 hz with hz | hz
   ·exact h z hz
   ·simp at hz
    rw [hz]; exact hx
  ·rcases List.mem_or_eq_of_mem_set hz with hz | rfl
   ·exact h z hz
   ·have h1:=mayM_iff.1 (h _ (List.getElem_mem (show m < acc.length by omega)))
    have h2:=mayM_iff.1 hx
    rw [mayM_iff]
    unfold mxM endM
    split <;> simp only <;> omega
theorem joinS_len (acc : List RunM) (x : RunM) : (joinS acc x).length ≤ acc.length + 1:=by
 rcases Nat.eq_zero_or_pos acc.length with h0 | h0
 ·obtain rfl : acc = []:=List.eq_nil_of_length_eq_zero h0
  simp [joinS_nil]
 ·obtain ⟨m,hm⟩ : ∃ m,acc.length = m + 1:=⟨acc.length - 1,by omega⟩
  rw [joinS_some hm]
  split <;> simp
theorem fold_take {s : List RunM} {i : Nat} (h : i < s.length) : (s.take (i + 1)).foldl joinS [] = joinS ((s.take i).foldl joinS []) s[i]:=by
 rw [List.take_succ_eq_append_getElem h,List.foldl_append]
 rfl
theorem fold_may {s : List RunM} (h : ∀ x ∈ s,mayM x = true) : ∀ (a : List RunM),(∀ x ∈ a,mayM x = true) → (∀ x ∈ s.foldl joinS a,mayM x = true) ∧ (s.foldl joinS a).length ≤ a.length + s.length:=by
 induction s with
 | nil => exact fun a ha => ⟨ha,by simp⟩
 | cons y s ih =>
  intro a ha
  have:=ih (fun x hx => h x (by simp [hx])) (joinS a y) (joinS_may ha (h y (by simp)))
  have hl:=joinS_len a y
  simp only [List.foldl_cons,List.length_cons]
  exact ⟨this.1,by omega⟩
theorem kill_keep {B : Nat} {K : Heap} {sz : Nat} {S : AV} {rows : List (List AV)} (h : RepB B K sz S rows) {j : Nat} {b : Blk} (hj : K.get j = some b) (hlt : j < B:=by omega) (L : List Blk:=[]) : (kill K S).get j = some b:=by
 rcases h with ⟨rfl,_⟩ | ⟨id,hb,rfl,_⟩
 ·exact hj
 ·show (K.set id .dead).get j = _
  rw [Heap.get_set_ne _ (by omega),hj]
theorem l110 (s : List RunM) (hs : s.length ≤ 1000000) (hm : ∀ x ∈ s, mayM x = true) (o : Nat) {Q : AExit → Env → Heap → Prop}
   (hex : ∀ f' K S, Rep K 2 S ((s.foldl joinS []).map runC) → f' 4 = S → Q (.exit 0) (mkE 57 f') (hx K [])) :
   ∀ (d i : Nat) (S : AV) (K : Heap) (f : Nat → AV), i + d = s.length → K.get o = some (.row false 2 (s.map runC)) → RepB (o + 1) K 2 S (((s.take i).foldl joinS []).map runC) → f 4 = S → f 12 = .sl o 0 s.length → f 13 = int s.length → f 14 = int i →
    AW ft (.loop c110L0) (mkE 57 f) (hx K []) Q := by
  intro d
  induction d with
  | zero =>
    intro i S K f hd ho hr h4 h12 h13 h14
    have g : ((i : Int) < s.length) = False := by simp; omega
    rw [AW_loop]
    unfold c110L0
    rw [List.take_of_length_le (by omega)] at hr
    simp only [↓vp, vz, Nat.reduceLT, Nat.reduceEqDiff, Nat.reduceLeDiff, Nat.reduceAdd, Nat.reduceSub, Nat.reduceMul, Int.reduceBEq, Int.reduceBNe, Int.reduceLT, Int.reduceLE, Int.reduceEq, reduceIte, reduceCtorEq, da, int, boolA, h13, h14, g]
    refine hex _ K S hr.rep ?_
    simp only [↓vp, vz, Nat.reduceLT, Nat.reduceEqDiff, Nat.reduceLeDiff, Nat.reduceAdd, Nat.reduceSub, Nat.reduceMul, Int.reduceBEq, Int.reduceBNe, Int.reduceLT, Int.reduceLE, Int.reduceEq, reduceIte, reduceCtorEq, da, int, boolA, h4]
  | succ d ih =>
    intro i S K f hd ho hr h4 h12 h13 h14
    have g1 : ((i : Int) < s.length) = True := by simp; omega
    have gi : i < s.length := by omega
    have w1 := wrap_succ (show i < 9223372036854775807 by omega)
    have hxm := hm s[i] (List.getElem_mem gi)
    obtain ⟨hfm, hfl⟩ := fold_may (s := s.take i) (fun x hx => hm x (List.mem_of_mem_take hx)) [] (by simp)
    have ht := fold_take gi
    generalize ha : (s.take i).foldl joinS [] = acc at hr hfm hfl ht
    have hal : acc.length ≤ 1000000 := by simp at hfl; omega
    have lo := Heap.get_lt ho
    have ia := fun L => ia_rr (H := hx K L) (get_old ho L) gi
    have ca := fun L off n => c_rr (H := hx K L) (off := off) (n := n) (get_old ho L) gi
    have ln := fun H => len_rep (H := H) hr.rep
    have ap := fun nid L => appA_rep (nid := nid) (bytes := 16) hr.rep (xs := [runC s[i]]) (by simp) rfl (by simp; omega) L
    rw [List.length_map] at ln ap
    simp only [runC, int, List.length_singleton] at ap
    rcases Nat.eq_zero_or_pos acc.length with h0 | h0
    · have g2 : (IntKind.i64.wrap ((acc.length : Int) - 1) < 0) = True := eq_true (by rw [wrap_i64 (by omega)]; omega)
      rw [AW_loop]
      unfold c110L0
      simp only [↓vp, vz, Nat.reduceLT, Nat.reduceEqDiff, Nat.reduceLeDiff, Nat.reduceAdd, Nat.reduceSub, Nat.reduceMul, Int.reduceBEq, Int.reduceBNe, Int.reduceLT, Int.reduceLE, Int.reduceEq, reduceIte, reduceCtorEq, da, int, boolA, dr, h4, h12, h13, h14, g1, ia, ca, runC, ln, g2, ap, kill_next, w1]
      rw [← hx_nil (hx _ _)]
      obtain rfl : acc = [] := List.eq_nil_of_length_eq_zero h0
      rw [joinS_nil] at ht
      refine ih (i + 1) (.sl (K.next + 2) 0 1) _ _ (by omega) ?_ (.inr ⟨K.next + 2, by omega, ?_, ?_⟩) ?_ ?_ ?_ ?_
      · exact get_old (kill_keep hr ho) _
      · rw [ht]
        rfl
      · rw [ht]
        simp only [↓vp, vz, Nat.reduceLT, Nat.reduceEqDiff, Nat.reduceLeDiff, Nat.reduceAdd, Nat.reduceSub, Nat.reduceMul, Int.reduceBEq, Int.reduceBNe, Int.reduceLT, Int.reduceLE, Int.reduceEq, reduceIte, reduceCtorEq, kill_next]
        rfl
      all_goals simp only [↓vp, vz, Nat.reduceLT, Nat.reduceEqDiff, Nat.reduceLeDiff, Nat.reduceAdd, Nat.reduceSub, Nat.reduceMul, Int.reduceBEq, Int.reduceBNe, Int.reduceLT, Int.reduceLE, Int.reduceEq, reduceIte, reduceCtorEq, da, int, boolA, h12, h13]
    · obtain ⟨m, hm1⟩ : ∃ m, acc.length = m + 1 := ⟨acc.length - 1, by omega⟩
      have gm : m < acc.length := by omega
      obtain ⟨id, hid, hS, hg⟩ : ∃ id, o + 1 ≤ id ∧ S = .sl id 0 acc.length ∧ K.get id = some (.row false 2 (acc.map runC)) := by
        rcases hr with ⟨_, h⟩ | ⟨id, h1, h2, h3⟩
        · rw [List.map_eq_nil_iff] at h
          rw [h] at h0
          simp at h0
        · rw [List.length_map] at h2
          exact ⟨id, h1, h2, h3⟩
      have lid := Heap.get_lt hg
      have e1 : IntKind.i64.wrap ((acc.length : Int) - 1) = (m : Int) := by rw [wrap_i64 (by omega)]; omega
      have g2 : ((m : Int) < 0) = False := eq_false (by omega)
      have ib : ∀ L, iaddrA (hx K L) none 2 S (m : Int) = some (.ptr id m 0) := fun L => by rw [hS]; exact ia_rr (H := hx K L) (get_old hg L) gm
      have cb := fun L off n => c_rr (H := hx K L) (off := off) (n := n) (get_old hg L) gm
      have hym := hfm acc[m] (List.getElem_mem gm)
      have by1 := mayM_iff.1 hym
      have bx1 := mayM_iff.1 hxm
      have ke := fun K L Q => @k107 acc[m] (may_end hym) K L Q
      have kx := fun K L Q => @k107 s[i] (may_end hxm) K L Q
      have pe := p107 acc[m]
      have px := p107 s[i]
      simp only [runC, int] at ke kx pe px
      have hj := joinS_some (x := s[i]) hm1
      rw [AW_loop]
      unfold c110L0
      by_cases c1 : s[i].1 > endM acc[m]
      · rw [if_pos c1] at hj
        simp only [↓vp, vz, Nat.reduceLT, Nat.reduceEqDiff, Nat.reduceLeDiff, Nat.reduceAdd, Nat.reduceSub, Nat.reduceMul, Int.reduceBEq, Int.reduceBNe, Int.reduceLT, Int.reduceLE, Int.reduceEq, reduceIte, reduceCtorEq, da, int, boolA, dr, h4, h12, h13, h14, g1, ia, ca, runC, ln, e1, g2, ib, cb, ke, pe, eq_true c1, ap, kill_next, w1]
        rw [← hx_nil (hx _ _)]
        refine ih (i + 1) (.sl (K.next + 2) 0 (acc.length + 1)) _ _ (by omega) ?_ (.inr ⟨K.next + 2, by omega, ?_, ?_⟩) ?_ ?_ ?_ ?_
        · exact get_old (kill_keep hr ho) _
        · rw [ht, hj]
          simp
        · rw [ht, hj]
          simp only [↓vp, vz, Nat.reduceLT, Nat.reduceEqDiff, Nat.reduceLeDiff, Nat.reduceAdd, Nat.reduceSub, Nat.reduceMul, Int.reduceBEq, Int.reduceBNe, Int.reduceLT, Int.reduceLE, Int.reduceEq, reduceIte, reduceCtorEq, kill_next, List.map_append]
          rfl
        all_goals simp only [↓vp, vz, Nat.reduceLT, Nat.reduceEqDiff, Nat.reduceLeDiff, Nat.reduceAdd, Nat.reduceSub, Nat.reduceMul, Int.reduceBEq, Int.reduceBNe, Int.reduceLT, Int.reduceLE, Int.reduceEq, reduceIte, reduceCtorEq, da, int, boolA, h12, h13]
      · rw [if_neg c1] at hj
        have gg := fun L => get_old (L := L) hg
        have gs : ∀ L b, (hx K L).set id b = hx (K.set id b) L := fun L b => hx_set_old K L b id lid
        have rm : (acc.map runC)[m]? = some [.sc (.int .i64 acc[m].1), .sc (.int .i64 acc[m].2)] := by rw [List.getElem?_map, List.getElem?_eq_getElem gm]; rfl
        have wm : IntKind.i64.wrap ((if endM acc[m] < endM s[i] then endM s[i] else endM acc[m]) - acc[m].1) = mxM (endM acc[m]) (endM s[i]) - acc[m].1 := by
          unfold mxM endM
          exact wrap_i64 (by split <;> omega)
        simp only [↓vp, vz, Nat.reduceLT, Nat.reduceEqDiff, Nat.reduceLeDiff, Nat.reduceAdd, Nat.reduceSub, Nat.reduceMul, Int.reduceBEq, Int.reduceBNe, Int.reduceLT, Int.reduceLE, Int.reduceEq, reduceIte, reduceCtorEq, da, int, boolA, dr, h4, h12, h13, h14, g1, ia, ca, runC, ln, e1, g2, ib, cb, ke, kx, pe, px, eq_false c1, w1, gg, rm, wm, gs]
        have hshape : (acc.map runC).set m [.sc (.int .i64 acc[m].1), .sc (.int .i64 (mxM (endM acc[m]) (endM s[i]) - acc[m].1))] = (joinS acc s[i]).map runC := by
          rw [hj, List.map_set]
          rfl
        simp only [↓vp, vz, Nat.reduceLT, Nat.reduceEqDiff, Nat.reduceLeDiff, Nat.reduceAdd, Nat.reduceSub, Nat.reduceMul, Int.reduceBEq, Int.reduceBNe, Int.reduceLT, Int.reduceLE, Int.reduceEq, reduceIte, reduceCtorEq, da, int, boolA, dr, hS, hshape]
        rw [← hx_nil (hx (K.set _ _) _)]
        refine ih (i + 1) (.sl id 0 acc.length) (hx (K.set id (.row false 2 ((joinS acc s[i]).map runC))) [.box false (runC s[i])]) _ (by omega) ?_ (.inr ⟨id, hid, ?_, ?_⟩) ?_ ?_ ?_ ?_
        · refine get_old ?_ _
          rw [Heap.get_set_ne _ (by omega), ho]
        · rw [ht, List.length_map, hj, List.length_set]
        · rw [ht]
          refine get_old ?_ _
          rw [Heap.get_set_self _ lid]
        all_goals simp only [↓vp, vz, Nat.reduceLT, Nat.reduceEqDiff, Nat.reduceLeDiff, Nat.reduceAdd, Nat.reduceSub, Nat.reduceMul, Int.reduceBEq, Int.reduceBNe, Int.reduceLT, Int.reduceLE, Int.reduceEq, reduceIte, reduceCtorEq, da, int, boolA, h4, h12, h13, hS]
def srsM (l : List RunM) : List SR:=l.filterMap fun x => if h : 0 ≤ x.1 ∧ x.1 ≤ 1000000 then some ⟨x,h⟩ else none
noncomputable def sortR (l : List RunM) : List RunM:=(sortL (srsM l)).map (·.1)
theorem srsM_val : ∀ {l : List RunM},(∀ x ∈ l,mayM x = true) → (srsM l).map (·.1) = l
 | [],_ => rfl
 | x :: l,h => by
  have h1:=mayM_iff.1 (h x (by simp))
  have h2:=srsM_val (l:=l) fun y hy => h y (by simp [hy])
  have h3 : 0 ≤ x.1 ∧ x.1 ≤ 1000000:=by omega
  unfold srsM at h2 ⊢
  rw [List.filterMap_cons,dif_pos h3]
  simp only [List.map_cons,h2]
theorem map_val (l : List SR) : l.map srC = (l.map (·.1)).map runC:=by
 rw [List.map_map]
 rfl
theorem sortR_perm {l : List RunM} (h : ∀ x ∈ l,mayM x = true) : (sortR l).Perm l:=by
 have:=(sortL_perm (srsM l)).map (·.1)
 rw [srsM_val h] at this
 exact this
theorem sortR_len {l : List RunM} (h : ∀ x ∈ l,mayM x = true) : (sortR l).length = l.length:=(sortR_perm h).length_eq
theorem sortR_may {l : List RunM} (h : ∀ x ∈ l,mayM x = true) : ∀ x ∈ sortR l,mayM x = true:=fun x hx => h x ((sortR_perm h).mem_iff.1 hx)
theorem sortR_sorted (l : List RunM) : (sortR l).Pairwise fun a b => a.1 ≤ b.1:=by
 rw [List.pairwise_iff_getElem]
 intro i j hi hj hij
 simp only [sortR,List.length_map] at hi hj
 have:=sortL_sorted (srsM l) i j hij hj
 simpa [sortR] using this
theorem ksort {l : List RunM} (hl : l.length ≤ 1000000) (hm : ∀ x ∈ l,mayM x = true) {Q : AV → Heap → Prop} :
  KW ft (.fn (.func 159) [] []) [.sl 1 0 l.length,.fn (.func 160) [] []] (hx Heap.empty [.dead,.row false 2 (l.map runC)]) Q ↔ Q (.tup []) (hx Heap.empty [.dead,.row false 2 ((sortR l).map runC)]):=by
 refine k_prim (p:=sortP 160) rfl ?_ ?_
 ·have e : l.map runC = (srsM l).map srC:=by rw [map_val,srsM_val hm]
  unfold sortP
  simp only [hxe_get',List.getElem?_cons_succ,List.getElem?_cons_zero,if_true]
  rw [if_pos ⟨by simp,hl⟩,e,srsOf_map,Option.map_some]
  simp only [hxe_set,List.set_cons_succ,List.set_cons_zero]
  rw [map_val]
  rfl
 ·rw [hxe_nx,hxe_nx]
  simp
theorem ksort0 {K : Heap} {L : List Blk} {Q : AV → Heap → Prop} : KW ft (.fn (.func 159) [] []) [.emp,.fn (.func 160) [] []] (hx K L) Q ↔ Q (.tup []) (hx K L):=by
 refine k_prim (p:=sortP 160) rfl ?_ (Nat.le_refl _)
 unfold sortP
 simp
theorem allR (l : List RunM) : allSz 2 (l.map runC) = true:=by simp [allSz,runC]
theorem k_eprim {T : FT} {k : Nat} {p : List AV → Nat → Option (AV × List Blk)} (hk : T k = some (.eprim p)) {args : List AV} {H : Heap} {L : List Blk} {r : AV} (h : p args H.next = some (r,L)) {Q : AV → Heap → Prop} : KW T (.fn (.func k) [] []) args H Q ↔ Q r ⟨H.bs ++ L⟩:=by
 refine KW_of ?_
 rw [callL_fn]
 unfold callF
 simp only [hk,List.nil_append,List.append_nil,h,Option.map_some]
theorem kcloR {T : FT} (hT : T 111 = some (.eprim (ecloP 2 16))) {l : List RunM} (h0 : l ≠ []) (hb : l.length ≤ 1000000) {K : Heap} {L : List Blk} {Q : AV → Heap → Prop} : KW T (.fn (.func 111) [] []) [encR l] (hx K L) Q ↔ Q (.sl ((hx K L).next + 1) 0 l.length) (hx K (L ++ [.dead,.row false 2 (l.map runC)])):=by
 rw [← hx_hx]
 refine k_eprim hT ?_
 cases l with
 | nil => exact absurd rfl h0
 | cons x xs =>
  show (if ((x :: xs).map runC).length * 16 ≤ 140737488355328 ∧ allSz 2 ((x :: xs).map runC) = true then some (AV.sl ((hx K L).next + 1) 0 ((x :: xs).map runC).length,[Blk.dead,Blk.row false 2 ((x :: xs).map runC)]) else none) = _
  rw [if_pos ⟨by simp only [List.length_map]; omega,allR _⟩,List.length_map]
theorem kcloR0 {T : FT} (hT : T 111 = some (.eprim (ecloP 2 16))) {K : Heap} {L : List Blk} {Q : AV → Heap → Prop} : KW T (.fn (.func 111) [] []) [encR []] (hx K L) Q ↔ Q .emp (hx K (L ++ [.dead])):=by
 rw [← hx_hx]
 exact k_eprim hT rfl
noncomputable def joinM (l : List RunM) : List RunM:=(sortR l).foldl joinS []
theorem s110 (l : List RunM) (hl : l.length ≤ 1000000) (hm : ∀ x ∈ l,mayM x = true) {args : List AV} {H H1 : Heap} (hz : frzCells H args = some ([encR l],H1)) : callL ft (.fn (.func 110) [] []) args H = some (encR (joinM l),H1):=by
 refine call_p (as':=[encR l]) rfl (by simpa using hz) (by simp) ?_
 unfold c110 r110
 by_cases h0 : l = []
 ·subst h0
  have e : joinM [] = []:=by
   unfold joinM
   rw [List.eq_nil_of_length_eq_zero (by rw [sortR_len (by simp)]; rfl : (sortR []).length = 0)]
   rfl
  have kc:=fun K L Q => @kcloR0 ft rfl K L Q
  have ks:=fun K L Q => @ksort0 K L Q
  rw [e]
  simp only [↓vp,vz,Nat.reduceLT,Nat.reduceEqDiff,Nat.reduceLeDiff,Nat.reduceAdd,Nat.reduceSub,Nat.reduceMul,Int.reduceBEq,Int.reduceBNe,Int.reduceLT,Int.reduceLE,Int.reduceEq,reduceIte,reduceCtorEq,da,int,boolA,dr,kc,vemp,ks]
  rw [AW_loop]
  unfold c110L0
  simp only [↓vp,vz,Nat.reduceLT,Nat.reduceEqDiff,Nat.reduceLeDiff,Nat.reduceAdd,Nat.reduceSub,Nat.reduceMul,Int.reduceBEq,Int.reduceBNe,Int.reduceLT,Int.reduceLE,Int.reduceEq,reduceIte,reduceCtorEq,da,int,boolA,dr,kc,vemp,ks]
  unfold c110R1
  simp only [↓vp,vz,Nat.reduceLT,Nat.reduceEqDiff,Nat.reduceLeDiff,Nat.reduceAdd,Nat.reduceSub,Nat.reduceMul,Int.reduceBEq,Int.reduceBNe,Int.reduceLT,Int.reduceLE,Int.reduceEq,reduceIte,reduceCtorEq,da,int,boolA,rt,dr,kc,vemp,ks]
  try rfl
 ·have kc:=fun K L Q => @kcloR ft rfl l h0 hl K L Q
  have ks:=fun Q => @ksort l hl hm Q
  have e:=sortR_len hm
  simp only [↓vp,vz,Nat.reduceLT,Nat.reduceEqDiff,Nat.reduceLeDiff,Nat.reduceAdd,Nat.reduceSub,Nat.reduceMul,Int.reduceBEq,Int.reduceBNe,Int.reduceLT,Int.reduceLE,Int.reduceEq,reduceIte,reduceCtorEq,da,int,boolA,dr,kc,vemp,ks,List.length_nil,Nat.zero_add,List.nil_append]
  rw [← hx_nil (hx _ _)]
  refine l110 (sortR l) (by omega) (sortR_may hm) 1 (fun f' K S hr h4 => ?_) (sortR l).length 0 (.sc (.slice none 0 0)) _ _ (by simp) ?_ (.inl ⟨rfl,rfl⟩) ?_ ?_ ?_ ?_
  ·unfold c110R1
   obtain ⟨K',hz⟩:=frz_rep (L:=[]) (by rw [hx_nil]; exact hr) 23
   simp only [↓vp,vz,Nat.reduceLT,Nat.reduceEqDiff,Nat.reduceLeDiff,Nat.reduceAdd,Nat.reduceSub,Nat.reduceMul,Int.reduceBEq,Int.reduceBNe,Int.reduceLT,Int.reduceLE,Int.reduceEq,reduceIte,reduceCtorEq,h4]
   refine ret1 rfl (by decide) ?_
   simp only [↓vp,vz,Nat.reduceLT,Nat.reduceEqDiff,Nat.reduceLeDiff,Nat.reduceAdd,Nat.reduceSub,Nat.reduceMul,Int.reduceBEq,Int.reduceBNe,Int.reduceLT,Int.reduceLE,Int.reduceEq,reduceIte,reduceCtorEq]
   exact ⟨K',hz⟩
  ·rfl
  all_goals first | rfl | (simp only [↓vp,vz,Nat.reduceLT,Nat.reduceEqDiff,Nat.reduceLeDiff,Nat.reduceAdd,Nat.reduceSub,Nat.reduceMul,Int.reduceBEq,Int.reduceBNe,Int.reduceLT,Int.reduceLE,Int.reduceEq,reduceIte,reduceCtorEq,da,int,boolA,e]; done)
end Go.VI
namespace Go.VI
attribute [local congr] AW_congr OW_congr DW_congr NW_congr VW_congr GW_congr PW_congr KW_congr ite_congr' GV_congr CV_congr
theorem VW_appz {ft : FT} {e : Env} {H : Heap} {nid : Nat} {K : AV → Heap → Prop} (a b : Nat) (z : List AV) (x y : Operand) : VW ft nid e H (.appz a b z x y) K ↔ PW (opS nid e H (.appz a b z x y)) K:=Iff.rfl
theorem VW_cap {ft : FT} {e : Env} {H : Heap} {nid : Nat} {K : AV → Heap → Prop} (x : Operand) : VW ft nid e H (.cap x) K ↔ PW (opS nid e H (.cap x)) K:=Iff.rfl
theorem slice_sl0 {H : Heap} {id m sz : Nat} {rs : List (List AV)} (hg : H.get id = some (.row false sz rs)) (hm : m ≤ rs.length) : sliceA H sz (.sl id 0 m) none (some 0) none = some (.sl id 0 0):=by
 unfold sliceA boundsS
 simp [hg,hm]
theorem slice_nil0 (H : Heap) (sz : Nat) : sliceA H sz (.sc (.slice none 0 0)) none (some 0) none = some (.sc (.slice none 0 0)):=by
 unfold sliceA boundsA
 simp
theorem allSz_rep {sz n : Nat} {z : List AV} (h : z.length = sz) : allSz sz (List.replicate n z) = true:=by simp [allSz,h]
def gzR : List AV:=[.sc (.int .i64 0),.sc (.int .i64 0)]
theorem s1650 (H : Heap) : callL ft (.fn (.func 165) [] []) [.sc (.slice none 0 0),.sc (.int .i64 0)] H = some (.sc (.slice none 0 0),H):=by
 refine call_o (H1:=H) rfl (by simp) ?_
 unfold c165 r165 RetO
 have w0 : IntKind.i64.wrap (0 - 0) = 0:=rfl
 simp only [↓vp,vz,Nat.reduceLT,Nat.reduceEqDiff,Nat.reduceLeDiff,Nat.reduceAdd,Nat.reduceSub,Nat.reduceMul,Int.reduceBEq,Int.reduceBNe,Int.reduceLT,Int.reduceLE,Int.reduceEq,reduceIte,reduceCtorEq,da,int,boolA,dr,VW_appz,VW_cap,opI0,opI1,w0]
 exact ⟨rfl,hx_nil _⟩
theorem s1651 {m : Nat} (h0 : 0 < m) (hm : m ≤ 4000000) (H : Heap) : callL ft (.fn (.func 165) [] []) [.sc (.slice none 0 0),int m] H = some (.sl H.next 0 0,hx H [.row false 2 (List.replicate m gzR)]):=by
 refine call_o rfl (by simp) ?_
 unfold c165 r165 RetO
 have w0 : IntKind.i64.wrap (0 - 0) = 0:=rfl
 have w1 : IntKind.i64.wrap ((m : Int) - 0) = (m : Int):=by rw [wrap_i64 (by omega)]; omega
 have g0 : ((m : Int) < 0) = False:=eq_false (by omega)
 have g1 : ((0 : Int) < m) = True:=eq_true (by omega)
 have g2 : (m = 0) = False:=eq_false (by omega)
 have d2 : (m * 16 ≤ 140737488355328) = True:=eq_true (by omega)
 have d3 : ((0 : Int) ≤ m) = True:=eq_true (by omega)
 have ha : allSz 2 (List.replicate m gzR) = true:=allSz_rep rfl
 have hs : sliceA (hx H [.row false 2 (List.replicate m gzR)]) 2 (.sl H.next 0 m) none (some 0) none = some (.sl H.next 0 0):=slice_sl0 (by rw [hx_get0]; rfl) (by simp)
 unfold gzR at *
 simp only [↓vp,vz,Nat.reduceLT,Nat.reduceEqDiff,Nat.reduceLeDiff,Nat.reduceAdd,Nat.reduceSub,Nat.reduceMul,Int.reduceBEq,Int.reduceBNe,Int.reduceLT,Int.reduceLE,Int.reduceEq,reduceIte,reduceCtorEq,da,int,boolA,dr,VW_appz,VW_cap,opI0,opI1,w0,w1,g0,g1,g2,slice_nil0,Int.toNat_natCast,List.length_replicate,ha,d2,d3,hs]
 try rfl
theorem concR {A B : List RunM} {args : List AV} {H H1 : Heap} (hz : frzCells H args = some ([.lst [[encR A],[encR B]]],H1)) (ha : A.length ≤ 1000000) (hb : B.length ≤ 1000000) : callL ft (.fn (.func 113) [] []) args H = some (encR (A ++ B),H1):=by
 refine call_p rfl (by simpa using hz) (by simp) ?_
 unfold c113 r113
 have i0 : ∀ H,iaddrA H none 1 (.lst [[encR A],[encR B]]) 0 = some (.pim [[encR A],[encR B]] 0 0):=fun _ => rfl
 have i1 : ∀ H,iaddrA H none 1 (.lst [[encR A],[encR B]]) 1 = some (.pim [[encR A],[encR B]] 1 0):=fun _ => rfl
 have c0 : ∀ H,cellsAt H (.pim [[encR A],[encR B]] 0 0) 1 = some [encR A]:=fun _ => rfl
 have c1 : ∀ H,cellsAt H (.pim [[encR A],[encR B]] 1 0) 1 = some [encR B]:=fun _ => rfl
 have hl : ∀ H,lenV H 0 (.lst [[encR A],[encR B]]) = some (.sc (.int .i64 2),H):=fun _ => rfl
 have w0 : IntKind.i64.wrap (0 + 1) = 1:=rfl
 have w1 : IntKind.i64.wrap (1 + 1) = 2:=rfl
 have w2 : IntKind.i64.wrap (0 + (A.length : Int)) = A.length:=by rw [wrap_i64 (by omega)]; omega
 have w3 : IntKind.i64.wrap ((A.length : Int) + B.length) = ((A.length + B.length : Nat) : Int):=by rw [wrap_i64 (by omega)]; omega
 have g0 : ((A.length : Int) < 0) = False:=eq_false (by omega)
 have g1 : (((A.length + B.length : Nat) : Int) < 0) = False:=eq_false (by omega)
 simp only [↓vp,vz,Nat.reduceLT,Nat.reduceEqDiff,Nat.reduceLeDiff,Nat.reduceAdd,Nat.reduceSub,Nat.reduceMul,Int.reduceBEq,Int.reduceBNe,Int.reduceLT,Int.reduceLE,Int.reduceEq,reduceIte,reduceCtorEq,da,int,boolA,dr,hl]
 rw [AW_loop]
 unfold c113L0
 simp only [↓vp,vz,Nat.reduceLT,Nat.reduceEqDiff,Nat.reduceLeDiff,Nat.reduceAdd,Nat.reduceSub,Nat.reduceMul,Int.reduceBEq,Int.reduceBNe,Int.reduceLT,Int.reduceLE,Int.reduceEq,reduceIte,reduceCtorEq,da,int,boolA,dr,hl,i0,c0,w0,w2,g0]
 rw [AW_loop]
 simp only [↓vp,vz,Nat.reduceLT,Nat.reduceEqDiff,Nat.reduceLeDiff,Nat.reduceAdd,Nat.reduceSub,Nat.reduceMul,Int.reduceBEq,Int.reduceBNe,Int.reduceLT,Int.reduceLE,Int.reduceEq,reduceIte,reduceCtorEq,da,int,boolA,dr,hl,i1,c1,w1,w3,g1]
 rw [AW_loop]
 simp only [↓vp,vz,Nat.reduceLT,Nat.reduceEqDiff,Nat.reduceLeDiff,Nat.reduceAdd,Nat.reduceSub,Nat.reduceMul,Int.reduceBEq,Int.reduceBNe,Int.reduceLT,Int.reduceLE,Int.reduceEq,reduceIte,reduceCtorEq,da,int,boolA,dr]
 unfold c113R3
 by_cases hm : A.length + B.length = 0
 ·obtain rfl : A = []:=List.eq_nil_of_length_eq_zero (by omega)
  obtain rfl : B = []:=List.eq_nil_of_length_eq_zero (by omega)
  have kg:=fun K L Q => @KW_of ft _ _ _ Q _ _ (s1650 (hx K L))
  have r0 : ∀ H,rowsOf H (encR []) = some []:=fun _ => rfl
  simp only [↓vp,vz,Nat.reduceLT,Nat.reduceEqDiff,Nat.reduceLeDiff,Nat.reduceAdd,Nat.reduceSub,Nat.reduceMul,Int.reduceBEq,Int.reduceBNe,Int.reduceLT,Int.reduceLE,Int.reduceEq,reduceIte,reduceCtorEq,da,int,boolA,dr,List.length_nil,Nat.add_zero,Int.natCast_zero,kg,hl,r0]
  rw [AW_loop]
  unfold c113L1
  simp only [↓vp,vz,Nat.reduceLT,Nat.reduceEqDiff,Nat.reduceLeDiff,Nat.reduceAdd,Nat.reduceSub,Nat.reduceMul,Int.reduceBEq,Int.reduceBNe,Int.reduceLT,Int.reduceLE,Int.reduceEq,reduceIte,reduceCtorEq,da,int,boolA,dr,List.length_nil,Nat.add_zero,Int.natCast_zero,kg,hl,i0,c0,w0,r0]
  rw [AW_loop]
  simp only [↓vp,vz,Nat.reduceLT,Nat.reduceEqDiff,Nat.reduceLeDiff,Nat.reduceAdd,Nat.reduceSub,Nat.reduceMul,Int.reduceBEq,Int.reduceBNe,Int.reduceLT,Int.reduceLE,Int.reduceEq,reduceIte,reduceCtorEq,da,int,boolA,dr,List.length_nil,Nat.add_zero,Int.natCast_zero,kg,hl,i1,c1,w1,r0]
  rw [AW_loop]
  simp only [↓vp,vz,Nat.reduceLT,Nat.reduceEqDiff,Nat.reduceLeDiff,Nat.reduceAdd,Nat.reduceSub,Nat.reduceMul,Int.reduceBEq,Int.reduceBNe,Int.reduceLT,Int.reduceLE,Int.reduceEq,reduceIte,reduceCtorEq,da,int,boolA,dr,rt,c113R2]
  rfl
 ·have kg:=fun K L Q => @KW_of ft _ _ _ Q _ _ (s1651 (m:=A.length + B.length) (by omega) (by omega) (hx K L))
  have rI : ∀ H l,rowsOf H (encR l) = some (l.map runC):=fun _ _ => rfl
  have e0 : (List.replicate (A.length + B.length) gzR).length = A.length + B.length:=by simp
  have e1 : List.drop A.length (List.replicate (A.length + B.length) gzR) = List.replicate B.length gzR:=by simp
  have e2 : (A.map runC ++ List.replicate B.length gzR).length = A.length + B.length:=by simp
  have e3 : List.take A.length (A.map runC ++ List.replicate B.length gzR) = A.map runC:=by simp
  have e4 : List.drop (A.length + B.length) (A.map runC ++ List.replicate B.length gzR) = []:=List.drop_eq_nil_of_le (by simp)
  have e5 : (A.map runC ++ B.map runC).length = A.length + B.length:=by simp
  have e6 : List.take (A.length + B.length) (A.map runC ++ B.map runC) = (A ++ B).map runC:=by rw [← e5,List.take_length,List.map_append]
  have d1 : (A.length * 16 ≤ 140737488355328) = True:=eq_true (by omega)
  have d2 : ((A.length + B.length) * 16 ≤ 140737488355328) = True:=eq_true (by omega)
  simp only [int] at kg
  simp only [↓vp,vz,Nat.reduceLT,Nat.reduceEqDiff,Nat.reduceLeDiff,Nat.reduceAdd,Nat.reduceSub,Nat.reduceMul,Int.reduceBEq,Int.reduceBNe,Int.reduceLT,Int.reduceLE,Int.reduceEq,reduceIte,reduceCtorEq,da,int,boolA,dr,kg,hl,hxe_nx,hx_hx]
  rw [AW_loop]
  unfold c113L1
  simp only [↓vp,vz,Nat.reduceLT,Nat.reduceEqDiff,Nat.reduceLeDiff,Nat.reduceAdd,Nat.reduceSub,Nat.reduceMul,Int.reduceBEq,Int.reduceBNe,Int.reduceLT,Int.reduceLE,Int.reduceEq,reduceIte,reduceCtorEq,da,int,boolA,dr,hl,i0,c0,w0,rI,e0,e1,d1,allR,Nat.zero_le,Nat.le_add_right]
  rw [AW_loop]
  simp only [↓vp,vz,Nat.reduceLT,Nat.reduceEqDiff,Nat.reduceLeDiff,Nat.reduceAdd,Nat.reduceSub,Nat.reduceMul,Int.reduceBEq,Int.reduceBNe,Int.reduceLT,Int.reduceLE,Int.reduceEq,reduceIte,reduceCtorEq,da,int,boolA,dr,hl,i1,c1,w1,rI,e2,e3,e4,d2,allR,Nat.le_add_right]
  rw [AW_loop]
  simp only [↓vp,vz,Nat.reduceLT,Nat.reduceEqDiff,Nat.reduceLeDiff,Nat.reduceAdd,Nat.reduceSub,Nat.reduceMul,Int.reduceBEq,Int.reduceBNe,Int.reduceLT,Int.reduceLE,Int.reduceEq,reduceIte,reduceCtorEq,da,int,boolA,dr,rt,c113R2,e5,e6]
  try rfl
noncomputable def unionM (a b : List RunM) : List RunM:=joinM (cleanM a ++ cleanM b)
theorem cleans_may (a b : List RunM) : ∀ x ∈ cleanM a ++ cleanM b,mayM x = true:=fun x hx => by
 rcases List.mem_append.1 hx with h | h
 ·exact clean_may a x h
 ·exact clean_may b x h
theorem s52 (a b : List RunM) (ha : a.length ≤ 100000) (hb : b.length ≤ 100000) (H : Heap) : callL ft (.fn (.func 52) [] []) [encR a,encR b] H = some (encR (unionM a b),H):=by
 refine call_p (as':=[encR a,encR b]) rfl rfl (by simp) ?_
 unfold c52 r52 unionM
 have h1:=cleanM_len a
 have h2:=cleanM_len b
 have ka:=fun K L Q => @k105 a (by omega) K L Q
 have kb:=fun K L Q => @k105 b (by omega) K L Q
 have pa : pureV ft (.fn (.func 105) [] []) [encR a] = some (false,[]):=rfl
 have pb : pureV ft (.fn (.func 105) [] []) [encR b] = some (false,[]):=rfl
 have hz : frzCells (hx Heap.empty [.row false 1 [[encR (cleanM a)],[encR (cleanM b)]]]) [.sl 0 0 2] = some ([.lst [[encR (cleanM a)],[encR (cleanM b)]]],hx Heap.empty [.row true 1 [[encR (cleanM a)],[encR (cleanM b)]]]):=rfl
 have kc:=fun Q => @KW_of ft _ _ _ Q _ _ (concR hz (by omega) (by omega))
 have kj:=fun H Q => @KW_of ft _ _ _ Q _ _ (s110 (cleanM a ++ cleanM b) (by simp; omega) (cleans_may a b) (args:=[encR (cleanM a ++ cleanM b)]) (H:=H) (H1:=H) rfl)
 simp only [↓vp,vz,Nat.reduceLT,Nat.reduceEqDiff,Nat.reduceLeDiff,Nat.reduceAdd,Nat.reduceSub,Nat.reduceMul,Int.reduceBEq,Int.reduceBNe,Int.reduceLT,Int.reduceLE,Int.reduceEq,reduceIte,reduceCtorEq,da,int,boolA,rt,dr,ka,kb,pa,pb]
 rw [kc]
 simp only [↓vp,vz,Nat.reduceLT,Nat.reduceEqDiff,Nat.reduceLeDiff,Nat.reduceAdd,Nat.reduceSub,Nat.reduceMul,Int.reduceBEq,Int.reduceBNe,Int.reduceLT,Int.reduceLE,Int.reduceEq,reduceIte,reduceCtorEq,da,int,boolA,rt,dr]
 rw [kj]
 simp only [↓vp,vz,Nat.reduceLT,Nat.reduceEqDiff,Nat.reduceLeDiff,Nat.reduceAdd,Nat.reduceSub,Nat.reduceMul,Int.reduceBEq,Int.reduceBNe,Int.reduceLT,Int.reduceLE,Int.reduceEq,reduceIte,reduceCtorEq,da,int,boolA,rt,dr]
def meetF (b : List RunM) : AV:=.fn (.func 115) [] [.pim [[encR b]] 0 0]
theorem s115 (b : List RunM) (hb : b.length ≤ 2000000) (y : RunM) (H : Heap) : callL ftM (meetF b) [.agg (runC y)] H = some (boolA (decide (0 ≤ overI b y)),H):=by
 refine call_p (as':=[.agg (runC y),.pim [[encR b]] 0 0]) rfl rfl (by simp) ?_
 unfold c115 r115
 have cp : ∀ H,cellsAt H (.pim [[encR b]] 0 0) 1 = some [encR b]:=fun _ => rfl
 have ko:=fun K L Q => @k109l b hb y K L Q
 simp only [runC,int] at ko
 simp only [↓vp,vz,Nat.reduceLT,Nat.reduceEqDiff,Nat.reduceLeDiff,Nat.reduceAdd,Nat.reduceSub,Nat.reduceMul,Int.reduceBEq,Int.reduceBNe,Int.reduceLT,Int.reduceLE,Int.reduceEq,reduceIte,reduceCtorEq,da,int,boolA,rt,dr,runC,cp,ko]
def meetM (a b : List RunM) : Bool:=(cleanM a).any fun y => decide (0 ≤ overI (cleanM b) y)
theorem s53 (a b : List RunM) (ha : a.length ≤ 2000000) (hb : b.length ≤ 2000000) (H : Heap) : callL ftM (.fn (.func 53) [] []) [encR a,encR b] H = some (boolA (meetM a b),H):=by
 refine call_p (as':=[encR a,encR b]) rfl rfl (by simp) ?_
 unfold c53 r53 meetM
 have h1:=cleanM_len a
 have h2:=cleanM_len b
 have ka:=fun K L Q => @kM_of _ _ Q _ _ _ (s105 a ha (hx K L))
 have kb:=fun K L Q => @kM_of _ _ Q _ _ _ (s105 b hb (hx K L))
 have kk:=fun Q => @KW_of ftM _ _ _ Q _ _ (s114 (T:=ftM) rfl rfl (cleanM a) (by omega) (meetF (cleanM b)) (fun _ => rfl) (fun y => decide (0 ≤ overI (cleanM b) y)) (fun y _ K L Q => KW_of (s115 (cleanM b) (by omega) y _))
  (args:=[encR (cleanM a),.fn (.func 115) [] [.ptr 0 0 0]]) (H:=hx Heap.empty [.box false [encR (cleanM b)]]) (H1:=hx Heap.empty [.box true [encR (cleanM b)]]) rfl)
 simp only [↓vp,vz,Nat.reduceLT,Nat.reduceEqDiff,Nat.reduceLeDiff,Nat.reduceAdd,Nat.reduceSub,Nat.reduceMul,Int.reduceBEq,Int.reduceBNe,Int.reduceLT,Int.reduceLE,Int.reduceEq,reduceIte,reduceCtorEq,da,int,boolA,rt,dr,ka,kb,kk]
end Go.VI
namespace Go.VI
attribute [local congr] AW_congr OW_congr DW_congr NW_congr VW_congr GW_congr PW_congr KW_congr ite_congr' GV_congr CV_congr
def nzR (x : RunM) : Bool:=!decide (x.2 = 0)
theorem filter_take {ps : List RunM} {i : Nat} (h : i < ps.length) : (ps.take (i + 1)).filter nzR = if ps[i].2 = 0 then (ps.take i).filter nzR else (ps.take i).filter nzR ++ [ps[i]]:=by
 rw [List.take_succ_eq_append_getElem h,List.filter_append]
 by_cases e : ps[i].2 = 0 <;> simp [nzR,e]
theorem l51 (ps : List RunM) (hl : ps.length ≤ 100000) (o idl : Nat) (hid : idl ≤ o) (rows : List RunM) (A B : AV) {Q : AExit → Env → Heap → Prop}
   (hex : ∀ f' K S, RepB (o + 1) K 2 S ((ps.filter nzR).map runC) → K.get idl = some (.row false 2 (rows.map runC)) → f' 0 = A → f' 6 = B → f' 7 = S → Q (.exit 0) (mkE 91 f') (hx K [])) :
   ∀ (d i : Nat) (S : AV) (K : Heap) (f : Nat → AV), i + d = ps.length → RepB (o + 1) K 2 S (((ps.take i).filter nzR).map runC) → K.get o = some (.row false 2 (ps.map runC)) → K.get idl = some (.row false 2 (rows.map runC)) →
    f 0 = A → f 6 = B → f 7 = S → f 69 = .sl o 0 ps.length → f 70 = int ps.length → f 71 = int i →
    AW ftM (.loop c51L0) (mkE 91 f) (hx K []) Q := by
  intro d
  induction d with
  | zero =>
    intro i S K f hd hr ho hi h0 h6 h7 h69 h70 h71
    have g : ((i : Int) < ps.length) = False := by simp; omega
    rw [AW_loop]
    unfold c51L0
    rw [List.take_of_length_le (by omega)] at hr
    simp only [↓vp, vz, Nat.reduceLT, Nat.reduceEqDiff, Nat.reduceLeDiff, Nat.reduceAdd, Nat.reduceSub, Nat.reduceMul, Int.reduceBEq, Int.reduceBNe, Int.reduceLT, Int.reduceLE, Int.reduceEq, reduceIte, reduceCtorEq, da, int, boolA, h70, h71, g]
    refine hex _ K S hr hi ?_ ?_ ?_ <;> simp only [↓vp, vz, Nat.reduceLT, Nat.reduceEqDiff, Nat.reduceLeDiff, Nat.reduceAdd, Nat.reduceSub, Nat.reduceMul, Int.reduceBEq, Int.reduceBNe, Int.reduceLT, Int.reduceLE, Int.reduceEq, reduceIte, reduceCtorEq, da, int, boolA, h0, h6, h7]
  | succ d ih =>
    intro i S K f hd hr ho hi h0 h6 h7 h69 h70 h71
    have g1 : ((i : Int) < ps.length) = True := by simp; omega
    have gi : i < ps.length := by omega
    have w1 := wrap_succ (show i < 9223372036854775807 by omega)
    have ht := filter_take gi
    have hlen : ((ps.take i).filter nzR).length ≤ 100000 := by have := List.length_filter_le nzR (ps.take i); simp at this; omega
    have lo := Heap.get_lt ho
    have ia := fun L => ia_rr (H := hx K L) (get_old ho L) gi
    have ca := fun L off n => c_rr (H := hx K L) (off := off) (n := n) (get_old ho L) gi
    have ap := fun nid L => appA_rep (nid := nid) (bytes := 16) hr.rep (xs := [runC ps[i]]) (by simp) rfl (by simp; omega) L
    rw [List.length_map] at ap
    simp only [runC, int, List.length_singleton] at ap
    rw [AW_loop]
    unfold c51L0
    by_cases e : ps[i].2 = 0
    · have hs : eqsA [0, 0] [.sc (.int .i64 ps[i].1), .sc (.int .i64 ps[i].2)] [.sc (.int .i64 ps[i].1), .sc (.int .i64 0)] = some true := by
        simp [eqsA, scEq, e]
      rw [if_pos e] at ht
      simp only [↓vp, vz, Nat.reduceLT, Nat.reduceEqDiff, Nat.reduceLeDiff, Nat.reduceAdd, Nat.reduceSub, Nat.reduceMul, Int.reduceBEq, Int.reduceBNe, Int.reduceLT, Int.reduceLE, Int.reduceEq, reduceIte, reduceCtorEq, da, int, boolA, dr, h7, h69, h70, h71, g1, ia, ca, runC, hs, w1]
      rw [← hx_nil (hx _ _)]
      refine ih (i + 1) S _ _ (by omega) ?_ (get_old ho _) (get_old hi _) ?_ ?_ ?_ ?_ ?_ ?_
      · rw [ht]
        exact hr.mono fun id _ h => get_old h _
      all_goals simp only [↓vp, vz, Nat.reduceLT, Nat.reduceEqDiff, Nat.reduceLeDiff, Nat.reduceAdd, Nat.reduceSub, Nat.reduceMul, Int.reduceBEq, Int.reduceBNe, Int.reduceLT, Int.reduceLE, Int.reduceEq, reduceIte, reduceCtorEq, da, int, boolA, h0, h6, h7, h69, h70]
    · have hs : eqsA [0, 0] [.sc (.int .i64 ps[i].1), .sc (.int .i64 ps[i].2)] [.sc (.int .i64 ps[i].1), .sc (.int .i64 0)] = some false := by
        simp [eqsA, scEq, e]
      rw [if_neg e] at ht
      simp only [↓vp, vz, Nat.reduceLT, Nat.reduceEqDiff, Nat.reduceLeDiff, Nat.reduceAdd, Nat.reduceSub, Nat.reduceMul, Int.reduceBEq, Int.reduceBNe, Int.reduceLT, Int.reduceLE, Int.reduceEq, reduceIte, reduceCtorEq, da, int, boolA, dr, h7, h69, h70, h71, g1, ia, ca, runC, hs, w1, ap, kill_next]
      rw [← hx_nil (hx _ _)]
      refine ih (i + 1) (.sl (K.next + 2) 0 (((ps.take i).filter nzR).length + 1)) _ _ (by omega) (.inr ⟨K.next + 2, by omega, ?_, ?_⟩) (get_old (kill_keep hr ho) _) (get_old (kill_keep hr hi) _) ?_ ?_ ?_ ?_ ?_ ?_
      · rw [ht]
        simp
      · rw [ht]
        simp only [↓vp, vz, Nat.reduceLT, Nat.reduceEqDiff, Nat.reduceLeDiff, Nat.reduceAdd, Nat.reduceSub, Nat.reduceMul, Int.reduceBEq, Int.reduceBNe, Int.reduceLT, Int.reduceLE, Int.reduceEq, reduceIte, reduceCtorEq, kill_next, List.map_append]
        rfl
      all_goals simp only [↓vp, vz, Nat.reduceLT, Nat.reduceEqDiff, Nat.reduceLeDiff, Nat.reduceAdd, Nat.reduceSub, Nat.reduceMul, Int.reduceBEq, Int.reduceBNe, Int.reduceLT, Int.reduceLE, Int.reduceEq, reduceIte, reduceCtorEq, da, int, boolA, h0, h6, h69, h70]
theorem vRows_rep {B : Nat} {K : Heap} {S : AV} {l : List RunM} (h : RepB B K 2 S (l.map runC)) {n : Nat} (hn : n < B ∨ K.next ≤ n) : vRows K n S = some (l.map runC):=by
 rcases h with ⟨rfl,h⟩ | ⟨id,hb,rfl,hg⟩
 ·rw [h]; rfl
 ·have hlt:=Heap.get_lt hg
  have hne : id ≠ n:=by omega
  have hu : rowU K (.sl id 0 (l.map runC).length) = true:=by simp [rowU,hg]
  show (if id ≠ n ∧ rowU K (.sl id 0 (l.map runC).length) = true then rowsOf K (.sl id 0 (l.map runC).length) else none) = _
  rw [if_pos ⟨hne,hu⟩,rowsOf_sl,hg]
  simp only [Nat.zero_add,Nat.le_refl,if_true,List.drop_zero,List.take_length]
def putR (rows : List RunM) (k : Nat) (xs : List RunM) : List RunM:=rows.take k ++ xs ++ rows.drop (k + 1)
theorem krepR {K : Heap} {B id k : Nat} {S : AV} {rows xs : List RunM} (hi : K.get id = some (.row false 2 (rows.map runC))) (hb : id < B) (hS : RepB B K 2 S (xs.map runC)) (hk : k < rows.length) (hl : rows.length ≤ 100000) (hx1 : xs.length ≤ 100000) {Q : AV → Heap → Prop}
   (hq : ∀ K', K'.get K.next = some (.row false 2 ((putR rows k xs).map runC)) → Q (.sl K.next 0 (putR rows k xs).length) K') :
    KW ftM (.fn (.func 112) [] []) [.sl id 0 rows.length, .sc (.int .i64 (k : Int)), .sc (.int .i64 ((k + 1 : Nat) : Int)), S] K Q := by
  have hlt := Heap.get_lt hi
  have e0 : repP 2 16 [.sl id 0 rows.length, .sc (.int .i64 (k : Int)), .sc (.int .i64 ((k + 1 : Nat) : Int)), S] K = some (.sl K.next 0 (putR rows k xs).length, (K.set id .dead).put K.next (.row false 2 ((putR rows k xs).map runC))) := by
    unfold repP cutP
    simp only [hi, vRows_rep hS (.inl hb), Option.bind_some]
    rw [if_pos ⟨trivial, by decide, by simp, by omega, by omega, by omega, allR xs, by simp; omega⟩]
    have e1 : ((rows.map runC).take rows.length).take (k : Int).toNat ++ xs.map runC ++ ((rows.map runC).take rows.length).drop ((k + 1 : Nat) : Int).toNat = (putR rows k xs).map runC := by
      have tk : (rows.map runC).take rows.length = rows.map runC := List.take_of_length_le (by simp)
      rw [tk]
      simp [putR]
    rw [e1, List.length_map]
    simp only [Nat.add_zero, List.replicate_zero, hx_nil]
  refine (k_prim (p := repP 2 16) rfl e0 ?_).2 (hq _ ?_)
  · have := Heap.next_put_le (K.set id .dead) (.row false 2 ((putR rows k xs).map runC)) K.next
    rwa [Heap.next_set] at this
  · exact Heap.get_put_self _ (by rw [Heap.next_set]; exact Nat.le_refl _)
def dropK (l : List RunM) (x : RunM) : Nat:=(overI l x).toNat
def dropB (l : List RunM) (x : RunM) : Bool:=mayM x && decide (0 ≤ overI (cleanM l) x) &&
 (match (cleanM l)[dropK (cleanM l) x]? with
  | some y => decide (y.1 ≤ x.1) && decide (endM x ≤ endM y)
  | none => false)
def dropP (y x : RunM) : List RunM:=[(y.1,x.1 - y.1),(endM x,endM y - endM x)]
def dropM (l : List RunM) (x : RunM) : List RunM:=if dropB l x then
 (match (cleanM l)[dropK (cleanM l) x]? with
  | some y => putR (cleanM l) (dropK (cleanM l) x) ((dropP y x).filter nzR)
  | none => cleanM l) else cleanM l
theorem overI_lt (l : List RunM) (x : RunM) (h : 0 ≤ overI l x) : overI l x = (dropK l x : Int) ∧ dropK l x < l.length:=by
 unfold dropK
 have:=(idxM_neg (overB x) l 0).2
 unfold overI at h ⊢
 omega
theorem frz_rowb {K : Heap} {id : Nat} {rows : List RunM} (hg : K.get id = some (.row false 2 (rows.map runC))) (b : Bool) : ∃ H',frz FZ (hx K []) (.tup [.sl id 0 rows.length,.sc (.bool b)]) = some (.tup [encR rows,boolA b],H'):=by
 have e : (rows.map runC).take rows.length = rows.map runC:=List.take_of_length_le (by simp)
 have e3 : rows.length ≤ (rows.map runC).length:=by simp
 refine ⟨K.set id (.row true 2 (rows.map runC)),?_⟩
 rw [hx_nil]
 show frz 24 _ _ = _
 simp only [frz,frz.frzL,hg,Nat.zero_add,List.drop_zero,e,if_pos e3]
 rfl
theorem s51z (l : List RunM) (hl : l.length ≤ 100000) (x : RunM) {args : List AV} {H H1 : Heap} (hz : frzCells H args = some ([encR l,.agg (runC x)],H1)) : callL ftM (.fn (.func 51) [] []) args H = some (.tup [encR (dropM l x),boolA (dropB l x)],H1):=by
 refine call_p (as':=[encR l,.agg (runC x)]) rfl (by simpa using hz) (by simp) ?_
 clear hz
 unfold c51 r51
 have h1:=cleanM_len l
 have km:=fun K L Q => @kM_of _ _ Q _ _ _ (s106 x (hx K L))
 have kc:=fun K L Q => @kM_of _ _ Q _ _ _ (s105 l (by omega) (hx K L))
 have kx:=fun K L Q => @kM_of _ _ Q _ _ _ (s107w x (hx K L))
 have px : pureV ftM (.fn (.func 107) [] []) [.agg (runC x)] = some (false,[]):=rfl
 simp only [runC,int] at km kx px
 by_cases h0 : cleanM l = []
 ·have k0:=fun K L Q => @kcloR0 ftM rfl K L Q
  have ko:=fun K L Q => @k109 [] (by simp) x .emp (hx K L) (hx K L) rfl Q
  rw [h0] at kc
  have e1 : overI [] x = -1:=rfl
  have ed : dropB l x = false:=by unfold dropB; rw [h0,e1]; simp
  have em : dropM l x = []:=by unfold dropM; rw [ed,h0]; simp
  rw [ed,em]
  rw [e1] at ko
  simp only [runC,int] at ko
  cases e : mayM x with
  | false =>
   rw [e] at km
   simp only [↓vp,vz,Nat.reduceLT,Nat.reduceEqDiff,Nat.reduceLeDiff,Nat.reduceAdd,Nat.reduceSub,Nat.reduceMul,Int.reduceBEq,Int.reduceBNe,Int.reduceLT,Int.reduceLE,Int.reduceEq,reduceIte,reduceCtorEq,da,int,boolA,rt,dr,runC,km,kc,ko,k0,vemp]
   rfl
  | true =>
   rw [e] at km
   simp only [↓vp,vz,Nat.reduceLT,Nat.reduceEqDiff,Nat.reduceLeDiff,Nat.reduceAdd,Nat.reduceSub,Nat.reduceMul,Int.reduceBEq,Int.reduceBNe,Int.reduceLT,Int.reduceLE,Int.reduceEq,reduceIte,reduceCtorEq,da,int,boolA,rt,dr,runC,km,kc,ko,k0,vemp]
   rfl
 ·have kn:=fun K L Q => @kcloR ftM rfl (cleanM l) h0 (by omega) K L Q
  generalize hcl : cleanM l = c at *
  have hlen : c.length ≤ 100000:=by omega
  have hcm : ∀ y ∈ c,mayM y = true:=by rw [← hcl]; exact clean_may l
  have hz : frzCells (hx Heap.empty [.box false (runC x),.dead,.row false 2 (c.map runC)]) [.sl 2 0 c.length,.agg (runC x)] = some ([encR c,.agg (runC x)],hx Heap.empty [.box false (runC x),.dead,.row true 2 (c.map runC)]):=by
   have e : (c.map runC).take c.length = c.map runC:=List.take_of_length_le (by simp)
   have e3 : c.length ≤ (c.map runC).length:=by simp
   show frz.frzL 24 _ _ = _
   simp only [frz.frzL,frz,hxe_get',List.getElem?_cons_succ,List.getElem?_cons_zero,Nat.zero_add,List.drop_zero,e,if_pos e3,hxe_set]
   rfl
  have ko:=fun Q => @k109 c (by omega) x _ _ _ hz Q
  simp only [runC,int] at ko
  have gR : (hx Heap.empty [.box false [.sc (.int .i64 x.1),.sc (.int .i64 x.2)],.dead,.row false 2 (c.map runC)]).get 2 = some (.row false 2 (c.map runC)):=rfl
  have no : dropB l x = false → dropM l x = c:=fun e => by unfold dropM; rw [e,hcl]; rfl
  have fz : ∀ b : Bool,∃ H',frz FZ (hx Heap.empty [.box false [.sc (.int .i64 x.1),.sc (.int .i64 x.2)],.dead,.row false 2 (c.map runC)]) (.tup [.sl 2 0 c.length,.sc (.bool b)]) = some (.tup [encR c,boolA b],H'):=fun b => by
   have e : (c.map runC).take c.length = c.map runC:=List.take_of_length_le (by simp)
   have e3 : c.length ≤ (c.map runC).length:=by simp
   refine ⟨hx Heap.empty [.box false [.sc (.int .i64 x.1),.sc (.int .i64 x.2)],.dead,.row true 2 (c.map runC)],?_⟩
   show frz 24 _ _ = _
   simp only [frz,frz.frzL,hxe_get',List.getElem?_cons_succ,List.getElem?_cons_zero,Nat.zero_add,List.drop_zero,e,if_pos e3,hxe_set]
   rfl
  cases e : mayM x with
  | false =>
   have ed : dropB l x = false:=by unfold dropB; rw [e]; rfl
   rw [e] at km
   rw [ed,no ed]
   simp only [↓vp,vz,Nat.reduceLT,Nat.reduceEqDiff,Nat.reduceLeDiff,Nat.reduceAdd,Nat.reduceSub,Nat.reduceMul,Int.reduceBEq,Int.reduceBNe,Int.reduceLT,Int.reduceLE,Int.reduceEq,reduceIte,reduceCtorEq,da,int,boolA,dr,runC,km,kc,ko,kn]
   refine ret2 rfl (by decide) (by decide) ?_
   simp only [↓vp,vz,Nat.reduceLT,Nat.reduceEqDiff,Nat.reduceLeDiff,Nat.reduceAdd,Nat.reduceSub,Nat.reduceMul,Int.reduceBEq,Int.reduceBNe,Int.reduceLT,Int.reduceLE,Int.reduceEq,reduceIte,reduceCtorEq]
   exact fz false
  | true =>
   rw [e] at km
   have bx:=mayM_iff.1 e
   rw [endW_may e] at kx
   by_cases hk : 0 ≤ overI c x
   ·obtain ⟨hov,hkl⟩:=overI_lt c x hk
    generalize hkk : dropK c x = k at hov hkl
    have ib:=fun L => ia_rr (H:=hx (hx Heap.empty [.box false [.sc (.int .i64 x.1),.sc (.int .i64 x.2)],.dead,.row false 2 (c.map runC)]) L) (get_old gR L) hkl
    have cb:=fun L off n => c_rr (H:=hx (hx Heap.empty [.box false [.sc (.int .i64 x.1),.sc (.int .i64 x.2)],.dead,.row false 2 (c.map runC)]) L) (off:=off) (n:=n) (get_old gR L) hkl
    simp only [hx_hx] at ib cb
    have ib0:=ib []
    have cb0:=cb []
    have ib1:=ib [.dead]
    have cb1:=cb [.dead]
    simp only [List.append_nil] at ib0 cb0
    simp only [List.cons_append,List.nil_append] at ib1 cb1
    rw [hov] at ko
    have hym:=hcm c[k] (List.getElem_mem hkl)
    have by1:=mayM_iff.1 hym
    have ky:=fun K L Q => @kM_of _ _ Q _ _ _ (s107 c[k] (may_end hym) (hx K L))
    have py : pureV ftM (.fn (.func 107) [] []) [.agg (runC c[k])] = some (false,[]):=rfl
    simp only [runC,int] at ky py
    have d0 : ((k : Int) < 0) = False:=eq_false (by omega)
    have edb : dropB l x = (decide (c[k].1 ≤ x.1) && decide (endM x ≤ endM c[k])):=by
     unfold dropB
     rw [hcl,e,decide_eq_true hk,hkk,List.getElem?_eq_getElem hkl]
     rfl
    by_cases q1 : x.1 < c[k].1
    ·have ed : dropB l x = false:=by rw [edb,decide_eq_false (by omega)]; rfl
     rw [ed,no ed]
     simp only [↓vp,vz,Nat.reduceLT,Nat.reduceEqDiff,Nat.reduceLeDiff,Nat.reduceAdd,Nat.reduceSub,Nat.reduceMul,Int.reduceBEq,Int.reduceBNe,Int.reduceLT,Int.reduceLE,Int.reduceEq,reduceIte,reduceCtorEq,da,int,boolA,dr,runC,km,kc,ko,kn,d0,ib0,cb0,eq_true q1]
     refine ret2 rfl (by decide) (by decide) ?_
     simp only [↓vp,vz,Nat.reduceLT,Nat.reduceEqDiff,Nat.reduceLeDiff,Nat.reduceAdd,Nat.reduceSub,Nat.reduceMul,Int.reduceBEq,Int.reduceBNe,Int.reduceLT,Int.reduceLE,Int.reduceEq,reduceIte,reduceCtorEq]
     exact fz false
    ·by_cases q2 : endM x > endM c[k]
     ·have ed : dropB l x = false:=by rw [edb,decide_eq_false (show ¬ endM x ≤ endM c[k] by omega),Bool.and_false]
      rw [ed,no ed]
      simp only [↓vp,vz,Nat.reduceLT,Nat.reduceEqDiff,Nat.reduceLeDiff,Nat.reduceAdd,Nat.reduceSub,Nat.reduceMul,Int.reduceBEq,Int.reduceBNe,Int.reduceLT,Int.reduceLE,Int.reduceEq,reduceIte,reduceCtorEq,da,int,boolA,dr,runC,km,kc,ko,kn,d0,ib0,cb0,eq_false q1,kx,ky,px,py,eq_true q2]
      refine ret2 rfl (by decide) (by decide) ?_
      simp only [↓vp,vz,Nat.reduceLT,Nat.reduceEqDiff,Nat.reduceLeDiff,Nat.reduceAdd,Nat.reduceSub,Nat.reduceMul,Int.reduceBEq,Int.reduceBNe,Int.reduceLT,Int.reduceLE,Int.reduceEq,reduceIte,reduceCtorEq]
      exact fz false
     ·have ed : dropB l x = true:=by rw [edb,decide_eq_true (show c[k].1 ≤ x.1 by omega),decide_eq_true (show endM x ≤ endM c[k] by omega)]; rfl
      have em : dropM l x = putR c k ((dropP c[k] x).filter nzR):=by unfold dropM; rw [ed,hcl,hkk,List.getElem?_eq_getElem hkl]; rfl
      have w1 : IntKind.i64.wrap (x.1 - c[k].1) = x.1 - c[k].1:=wrap_i64 (by omega)
      have w2 : IntKind.i64.wrap (endM c[k] - endM x) = endM c[k] - endM x:=wrap_i64 (by unfold endM; omega)
      have w3:=wrap_succ (show k < 9223372036854775807 by omega)
      rw [ed,em]
      simp only [↓vp,vz,Nat.reduceLT,Nat.reduceEqDiff,Nat.reduceLeDiff,Nat.reduceAdd,Nat.reduceSub,Nat.reduceMul,Int.reduceBEq,Int.reduceBNe,Int.reduceLT,Int.reduceLE,Int.reduceEq,reduceIte,reduceCtorEq,da,int,boolA,dr,runC,km,kc,ko,kn,d0,ib0,cb0,ib1,cb1,eq_false q1,kx,ky,px,py,eq_false q2,w1,w2]
      rw [← hx_nil (hx _ _)]
      refine l51 (dropP c[k] x) (by simp [dropP]) 3 2 (by omega) c (.sl 2 0 c.length) (int k) (fun f' K S hr hi q0 q6 q7 => ?_) 2 0 (.sc (.slice none 0 0)) _ _ rfl (.inl ⟨rfl,rfl⟩) rfl rfl ?_ ?_ ?_ ?_ ?_ ?_
      ·unfold c51R1
       have hpl : ((dropP c[k] x).filter nzR).length ≤ 100000:=by
        have:=List.length_filter_le nzR (dropP c[k] x)
        have : (dropP c[k] x).length = 2:=rfl
        omega
       simp only [↓vp,vz,Nat.reduceLT,Nat.reduceEqDiff,Nat.reduceLeDiff,Nat.reduceAdd,Nat.reduceSub,Nat.reduceMul,Int.reduceBEq,Int.reduceBNe,Int.reduceLT,Int.reduceLE,Int.reduceEq,reduceIte,reduceCtorEq,da,int,boolA,q0,q6,q7,w3]
       rw [hx_nil]
       refine krepR (B:=4) (xs:=(dropP c[k] x).filter nzR) hi (by omega) hr hkl hlen hpl (fun K' hg => ?_)
       rw [← hx_nil K']
       simp only [↓vp,vz,Nat.reduceLT,Nat.reduceEqDiff,Nat.reduceLeDiff,Nat.reduceAdd,Nat.reduceSub,Nat.reduceMul,Int.reduceBEq,Int.reduceBNe,Int.reduceLT,Int.reduceLE,Int.reduceEq,reduceIte,reduceCtorEq,da,int,boolA]
       refine ret2 rfl (by decide) (by decide) ?_
       simp only [↓vp,vz,Nat.reduceLT,Nat.reduceEqDiff,Nat.reduceLeDiff,Nat.reduceAdd,Nat.reduceSub,Nat.reduceMul,Int.reduceBEq,Int.reduceBNe,Int.reduceLT,Int.reduceLE,Int.reduceEq,reduceIte,reduceCtorEq]
       exact frz_rowb hg true
      all_goals first | rfl | (simp only [↓vp,vz,Nat.reduceLT,Nat.reduceEqDiff,Nat.reduceLeDiff,Nat.reduceAdd,Nat.reduceSub,Nat.reduceMul,Int.reduceBEq,Int.reduceBNe,Int.reduceLT,Int.reduceLE,Int.reduceEq,reduceIte,reduceCtorEq,da,int,boolA]; done)
   ·have ed : dropB l x = false:=by unfold dropB; rw [hcl,decide_eq_false hk,Bool.and_false,Bool.false_and]
    have d0 : (overI c x < 0) = True:=eq_true (by omega)
    rw [ed,no ed]
    simp only [↓vp,vz,Nat.reduceLT,Nat.reduceEqDiff,Nat.reduceLeDiff,Nat.reduceAdd,Nat.reduceSub,Nat.reduceMul,Int.reduceBEq,Int.reduceBNe,Int.reduceLT,Int.reduceLE,Int.reduceEq,reduceIte,reduceCtorEq,da,int,boolA,dr,runC,km,kc,ko,kn,d0]
    refine ret2 rfl (by decide) (by decide) ?_
    simp only [↓vp,vz,Nat.reduceLT,Nat.reduceEqDiff,Nat.reduceLeDiff,Nat.reduceAdd,Nat.reduceSub,Nat.reduceMul,Int.reduceBEq,Int.reduceBNe,Int.reduceLT,Int.reduceLE,Int.reduceEq,reduceIte,reduceCtorEq]
    exact fz false
def takeF (n : Int) : AV:=.fn (.func 117) [] [.pim [[int n]] 0 0]
def takeB (n : Int) (x : RunM) : Bool:=decide (1 ≤ n) && decide (n ≤ x.2)
theorem s117 (n : Int) (x : RunM) (H : Heap) : callL ft (takeF n) [.agg (runC x)] H = some (boolA (takeB n x),H):=by
 refine call_p (as':=[.agg (runC x),.pim [[int n]] 0 0]) rfl rfl (by simp) ?_
 unfold c117 r117 takeB
 have cp : ∀ H,cellsAt H (.pim [[.sc (.int .i64 n)]] 0 0) 1 = some [.sc (.int .i64 n)]:=fun _ => rfl
 by_cases e : 1 ≤ n
 ·simp only [↓vp,vz,Nat.reduceLT,Nat.reduceEqDiff,Nat.reduceLeDiff,Nat.reduceAdd,Nat.reduceSub,Nat.reduceMul,Int.reduceBEq,Int.reduceBNe,Int.reduceLT,Int.reduceLE,Int.reduceEq,reduceIte,reduceCtorEq,da,int,boolA,rt,dr,runC,cp,e]
 ·have ef : (decide (1 ≤ n) && decide (n ≤ x.2)) = false:=by rw [decide_eq_false e]; rfl
  rw [ef]
  simp only [↓vp,vz,Nat.reduceLT,Nat.reduceEqDiff,Nat.reduceLeDiff,Nat.reduceAdd,Nat.reduceSub,Nat.reduceMul,Int.reduceBEq,Int.reduceBNe,Int.reduceLT,Int.reduceLE,Int.reduceEq,reduceIte,reduceCtorEq,da,int,boolA,rt,dr,runC,cp,e]
def fstI (l : List RunM) (n : Int) : Int:=idxM (takeB n) 0 l
def tookM (l : List RunM) (n : Int) : Int × List RunM × Bool :=
 match (if 0 ≤ fstI (cleanM l) n then (cleanM l)[(fstI (cleanM l) n).toNat]? else none) with
 | some y => (y.1,dropM (cleanM l) (y.1,n),dropB (cleanM l) (y.1,n))
 | none => (0,cleanM l,false)
theorem s54 (l : List RunM) (hl : l.length ≤ 100000) (n : Int) (H : Heap) : callL ftM (.fn (.func 54) [] []) [encR l,int n] H = some (.tup [int (tookM l n).1,encR (tookM l n).2.1,boolA (tookM l n).2.2],H):=by
 refine call_p (as':=[encR l,int n]) rfl rfl (by simp) ?_
 unfold c54 r54
 have h1:=cleanM_len l
 have kc:=fun K L Q => @kM_of _ _ Q _ _ _ (s105 l (by omega) (hx K L))
 by_cases h0 : cleanM l = []
 ·have k0:=fun K L Q => @kcloR0 ftM rfl K L Q
  have ki:=fun Q => @kM_of _ _ Q _ _ _ (s116 (T:=ft) rfl (takeF n) (takeB n) [] (by simp) (fun y hy => by cases hy) (args:=[.emp,.fn (.func 117) [] [.ptr 0 0 0]]) (H:=hx Heap.empty [.box false [int n],.dead]) (H1:=hx Heap.empty [.box true [int n],.dead]) rfl)
  have e1 : idxM (takeB n) 0 [] = -1:=rfl
  have et : tookM l n = (0,[],false):=by unfold tookM fstI; rw [h0,e1]; rfl
  rw [h0] at kc
  rw [e1] at ki
  simp only [int] at ki
  rw [et]
  simp only [↓vp,vz,Nat.reduceLT,Nat.reduceEqDiff,Nat.reduceLeDiff,Nat.reduceAdd,Nat.reduceSub,Nat.reduceMul,Int.reduceBEq,Int.reduceBNe,Int.reduceLT,Int.reduceLE,Int.reduceEq,reduceIte,reduceCtorEq,da,int,boolA,rt,dr,kc,k0,vemp,ki]
  try rfl
 ·have kn:=fun K L Q => @kcloR ftM rfl (cleanM l) h0 (by omega) K L Q
  generalize hcl : cleanM l = c at *
  have hlen : c.length ≤ 100000:=by omega
  have e : (c.map runC).take c.length = c.map runC:=List.take_of_length_le (by simp)
  have e3 : c.length ≤ (c.map runC).length:=by simp
  have hz : frzCells (hx Heap.empty [.box false [int n],.dead,.row false 2 (c.map runC)]) [.sl 2 0 c.length,.fn (.func 117) [] [.ptr 0 0 0]] = some ([encR c,takeF n],hx Heap.empty [.box true [int n],.dead,.row true 2 (c.map runC)]):=by
   show frz.frzL 24 _ _ = _
   simp only [frz.frzL,frz,hxe_get',List.getElem?_cons_succ,List.getElem?_cons_zero,Nat.zero_add,List.drop_zero,e,if_pos e3,hxe_set]
   rfl
  have ki:=fun Q => @kM_of _ _ Q _ _ _ (s116 (T:=ft) rfl (takeF n) (takeB n) c (by omega) (fun y hy K L Q => KW_of (s117 n y _)) hz)
  have hid:=(idxM_neg (takeB n) c 0).2
  simp only [int] at ki
  have gR : (hx Heap.empty [.box true [.sc (.int .i64 n)],.dead,.row true 2 (c.map runC)]).get 2 = some (.row true 2 (c.map runC)):=rfl
  by_cases hk : 0 ≤ idxM (takeB n) 0 c
  ·obtain ⟨k,hkk⟩ : ∃ k : Nat,idxM (takeB n) 0 c = k:=⟨(idxM (takeB n) 0 c).toNat,by omega⟩
   have hkl : k < c.length:=by rw [hkk] at hid; omega
   rw [hkk] at ki
   have d0 : ((k : Int) < 0) = False:=eq_false (by omega)
   have ib:=fun L => ia_rr (H:=hx (hx Heap.empty [.box true [.sc (.int .i64 n)],.dead,.row true 2 (c.map runC)]) L) (get_old gR L) hkl
   have cb:=fun L off m => c_rr (H:=hx (hx Heap.empty [.box true [.sc (.int .i64 n)],.dead,.row true 2 (c.map runC)]) L) (off:=off) (n:=m) (get_old gR L) hkl
   simp only [hx_hx] at ib cb
   have ib1:=ib [.dead]
   have cb1:=cb [.dead]
   simp only [List.cons_append,List.nil_append] at ib1 cb1
   have et : tookM l n = (c[k].1,dropM c (c[k].1,n),dropB c (c[k].1,n)):=by
    unfold tookM fstI
    rw [hcl,hkk,if_pos (by omega)]
    simp [hkl]
   have hz2 : frzCells (hx Heap.empty [.box true [int n],.dead,.row true 2 (c.map runC),.box false [int c[k].1,int n]]) [.sl 2 0 c.length,.agg (runC (c[k].1,n))] = some ([encR c,.agg (runC (c[k].1,n))],hx Heap.empty [.box true [int n],.dead,.row true 2 (c.map runC),.box false [int c[k].1,int n]]):=by
    show frz.frzL 24 _ _ = _
    simp only [frz.frzL,frz,hxe_get',List.getElem?_cons_succ,List.getElem?_cons_zero,Nat.zero_add,List.drop_zero,e,if_pos e3]
    rfl
   have kd:=fun Q => @KW_of ftM _ _ _ Q _ _ (s51z c hlen (c[k].1,n) hz2)
   simp only [runC,int] at kd
   rw [et]
   simp only [↓vp,vz,Nat.reduceLT,Nat.reduceEqDiff,Nat.reduceLeDiff,Nat.reduceAdd,Nat.reduceSub,Nat.reduceMul,Int.reduceBEq,Int.reduceBNe,Int.reduceLT,Int.reduceLE,Int.reduceEq,reduceIte,reduceCtorEq,da,int,boolA,rt,dr,kc,kn,ki,d0,ib1,cb1,kd]
  ·have hk1 : idxM (takeB n) 0 c = -1:=by omega
   rw [hk1] at ki
   have et : tookM l n = (0,c,false):=by unfold tookM fstI; rw [hcl,hk1]; rfl
   rw [et]
   simp only [↓vp,vz,Nat.reduceLT,Nat.reduceEqDiff,Nat.reduceLeDiff,Nat.reduceAdd,Nat.reduceSub,Nat.reduceMul,Int.reduceBEq,Int.reduceBNe,Int.reduceLT,Int.reduceLE,Int.reduceEq,reduceIte,reduceCtorEq,da,int,boolA,rt,dr,kc,kn,ki,e]
   rfl
end Go.VI
namespace Go.VI
attribute [local congr] AW_congr OW_congr DW_congr NW_congr VW_congr GW_congr PW_congr KW_congr ite_congr' GV_congr CV_congr
def pgs (x : RunM) (n : Nat) : List Int:=(List.range n).map fun (k : Nat) => x.1 + (k : Int)
def pgsL (l : List RunM) : List Int:=l.flatMap fun x => pgs x x.2.toNat
theorem pgs_len (x : RunM) (n : Nat) : (pgs x n).length = n:=by simp [pgs]
theorem pgs_succ (x : RunM) (n : Nat) : pgs x (n + 1) = pgs x n ++ [x.1 + (n : Int)]:=by simp [pgs,List.range_succ]
theorem pgsL_take {l : List RunM} {i : Nat} (h : i < l.length) : pgsL (l.take (i + 1)) = pgsL (l.take i) ++ pgs l[i] l[i].2.toNat:=by
 unfold pgsL
 rw [List.take_succ_eq_append_getElem h,List.flatMap_append]
 simp
theorem pgsL_len : ∀ {l : List RunM},(∀ x ∈ l,mayM x = true) → (pgsL l).length ≤ 32768 * l.length
 | [],_ => by simp [pgsL]
 | x :: l,h => by
  have h1:=mayM_iff.1 (h x (by simp))
  have h2:=pgsL_len (l:=l) fun y hy => h y (by simp [hy])
  unfold pgsL at h2 ⊢
  rw [List.flatMap_cons,List.length_append,pgs_len,List.length_cons]
  omega
end Go.VI
namespace Go.VI
attribute [local congr] AW_congr OW_congr DW_congr NW_congr VW_congr GW_congr PW_congr KW_congr ite_congr' GV_congr CV_congr
def Src (B : Nat) (K : Heap) (V : AV) (s : List Bool) : Prop:=V = encT s ∨ ∃ id fz,id < B ∧ V = .sl id 0 s.length ∧ K.get id = some (.row fz 1 (s.map bitC))
theorem src_len {B : Nat} {K : Heap} {V : AV} {s : List Bool} (h : Src B K V s) (H : Heap) : lenV H 0 V = some (.sc (.int .i64 (s.length : Int)),H):=by
 rcases h with rfl | ⟨id,fz,_,rfl,_⟩
 ·exact lenT s
 ·rfl
theorem src_at {B : Nat} {K : Heap} {V : AV} {s : List Bool} (h : Src B K V s) {i : Nat} (hi : i < s.length) : ∃ P,(∀ L,iaddrA (hx K L) none 1 V (i : Int) = some P) ∧ ∀ L,cellsAt (hx K L) P 1 = some [.sc (.bool s[i])]:=by
 rcases h with rfl | ⟨id,fz,_,rfl,hg⟩
 ·exact ⟨_,fun L => atT hi,fun L => cT hi⟩
 ·refine ⟨.ptr id i 0,fun L => ia_row (get_old hg L) hi,fun L => ?_⟩
  rw [cells_row (get_old hg L) (r:=bitC s[i]) (by rw [List.getElem?_map,List.getElem?_eq_getElem hi]; rfl)]
  rfl
theorem Src.mono {B : Nat} {K K' : Heap} {V : AV} {s : List Bool} (h : Src B K V s) (hk : ∀ id b,id < B → K.get id = some b → K'.get id = some b) : Src B K' V s:=by
 rcases h with h | ⟨id,fz,h1,h2,h3⟩
 ·exact .inl h
 ·exact .inr ⟨id,fz,h1,h2,hk id _ h1 h3⟩
def KeepB (B : Nat) (K K' : Heap) : Prop:=∀ id b,id < B → K.get id = some b → K'.get id = some b
def incL (out : List RunM) : List RunM:=match out.getLast? with
 | none => out
 | some y => out.set (out.length - 1) (y.1,y.2 + 1)
theorem incL_some {out : List RunM} {m : Nat} (h : out.length = m + 1) : incL out = out.set m ((out[m]'(by omega)).1,(out[m]'(by omega)).2 + 1):=by
 have e : out.length - 1 = m:=by omega
 unfold incL
 rw [List.getLast?_eq_getElem?,e,List.getElem?_eq_getElem (by omega)]
theorem incL_snoc (out : List RunM) (x : RunM) : incL (out ++ [x]) = out ++ [(x.1,x.2 + 1)]:=by
 rw [incL_some (m:=out.length) (by simp)]
 simp
def runStep (prev b : Bool) (p : Nat) (out : List RunM) : List RunM:=if b then (if prev then incL out else out ++ [((p : Int),1)]) else out
def prevT (s : List Bool) (i : Nat) : Bool:=decide (0 < i) && s.getD (i - 1) false
def runsT (s : List Bool) : Nat → List RunM
 | 0 => []
 | i + 1 => runStep (prevT s i) (s.getD i false) i (runsT s i)
def runsM (s : List Bool) : List RunM:=runsT s s.length
theorem runsT_inv (s : List Bool) : ∀ i,(prevT s i = true → runsT s i ≠ []) ∧ (runsT s i).length ≤ i ∧ ∀ x ∈ runsT s i,0 ≤ x.2 ∧ x.2 ≤ i
 | 0 => ⟨by simp [prevT],by simp [runsT],by simp [runsT]⟩
 | i + 1 => by
  obtain ⟨h1,h2,h3⟩:=runsT_inv s i
  have hp : prevT s (i + 1) = s.getD i false:=by simp [prevT]
  rw [hp]
  unfold runsT runStep
  cases e : s.getD i false with
  | false =>
   refine ⟨by simp,by simp; omega,?_⟩
   simp only [Bool.false_eq_true,if_false]
   intro x hx
   have:=h3 x hx
   omega
  | true =>
   simp only [if_true]
   cases ep : prevT s i with
   | false =>
    simp only [Bool.false_eq_true,if_false]
    refine ⟨by simp,by simp; omega,fun x hx => ?_⟩
    rcases List.mem_append.1 hx with hx | hx
    ·have:=h3 x hx
     omega
    ·simp at hx
     rw [hx]
     simp
     omega
   | true =>
    simp only [if_true]
    have hne:=h1 ep
    obtain ⟨m,hm⟩ : ∃ m,(runsT s i).length = m + 1:=⟨(runsT s i).length - 1,by have:=List.length_pos_iff.2 hne; omega⟩
    rw [incL_some hm]
    refine ⟨fun _ h => ?_,by rw [List.length_set]; omega,fun x hx => ?_⟩
    ·have:=congrArg List.length h
     simp at this
     exact hne this
    ·rcases List.mem_or_eq_of_mem_set hx with hx | rfl
     ·have:=h3 x hx
      omega
     ·have:=h3 _ (List.getElem_mem (show m < (runsT s i).length by omega))
      simp only
      omega
section
variable {T : FT}
theorem l48 (s : List Bool) (hs : s.length ≤ 100000) (B : Nat) (V : AV) (K0 : Heap) (hsrc0 : Src B K0 V s) {Q : AExit → Env → Heap → Prop}
   (hex : ∀ f' K S, RepB B K 2 S ((runsM s).map runC) → KeepB B K0 K → f' 3 = S → Q (.exit 0) (mkE 51 f') (hx K [])) :
   ∀ (d i : Nat) (S : AV) (K : Heap) (f : Nat → AV), i + d = s.length → RepB B K 2 S ((runsT s i).map runC) → KeepB B K0 K → B ≤ K.next → f 0 = V → f 3 = S → f 4 = int i →
    AW T (.loop c48L0) (mkE 51 f) (hx K []) Q := by
  intro d
  induction d with
  | zero =>
    intro i S K f hd hr hk hB h0 h3 h4
    have hsrc := hsrc0.mono hk
    have g : ((i : Int) < s.length) = False := by simp; omega
    have ln := src_len hsrc
    rw [AW_loop]
    unfold c48L0
    have e : i = s.length := by omega
    rw [e] at hr
    simp only [↓vp, vz, Nat.reduceLT, Nat.reduceEqDiff, Nat.reduceLeDiff, Nat.reduceAdd, Nat.reduceSub, Nat.reduceMul, Int.reduceBEq, Int.reduceBNe, Int.reduceLT, Int.reduceLE, Int.reduceEq, reduceIte, reduceCtorEq, da, int, boolA, dr, h0, h4, ln, g]
    refine hex _ K S hr hk ?_
    simp only [↓vp, vz, Nat.reduceLT, Nat.reduceEqDiff, Nat.reduceLeDiff, Nat.reduceAdd, Nat.reduceSub, Nat.reduceMul, Int.reduceBEq, Int.reduceBNe, Int.reduceLT, Int.reduceLE, Int.reduceEq, reduceIte, reduceCtorEq, da, int, boolA, h3]
  | succ d ih =>
    intro i S K f hd hr hk hB h0 h3 h4
    have hsrc := hsrc0.mono hk
    have g1 : ((i : Int) < s.length) = True := by simp; omega
    have gi : i < s.length := by omega
    have w1 := wrap_succ (show i < 9223372036854775807 by omega)
    have ln := src_len hsrc
    obtain ⟨P, iP, cP⟩ := src_at hsrc gi
    obtain ⟨i1, i2, i3⟩ := runsT_inv s i
    have eb : s.getD i false = s[i] := by simp [gi]
    have hstep : runsT s (i + 1) = runStep (prevT s i) s[i] i (runsT s i) := by rw [← eb]; rfl
    have lr := fun H => len_rep (H := H) hr.rep
    rw [List.length_map] at lr
    cases b : s[i] with
    | false =>
      rw [AW_loop]
      unfold c48L0
      rw [b] at cP hstep
      simp only [runStep, Bool.false_eq_true, if_false] at hstep
      simp only [↓vp, vz, Nat.reduceLT, Nat.reduceEqDiff, Nat.reduceLeDiff, Nat.reduceAdd, Nat.reduceSub, Nat.reduceMul, Int.reduceBEq, Int.reduceBNe, Int.reduceLT, Int.reduceLE, Int.reduceEq, reduceIte, reduceCtorEq, da, int, boolA, dr, h0, h3, h4, ln, g1, iP, cP, w1]
      refine ih (i + 1) S K _ (by omega) (by rw [hstep]; exact hr) hk hB ?_ ?_ ?_ <;> simp only [↓vp, vz, Nat.reduceLT, Nat.reduceEqDiff, Nat.reduceLeDiff, Nat.reduceAdd, Nat.reduceSub, Nat.reduceMul, Int.reduceBEq, Int.reduceBNe, Int.reduceLT, Int.reduceLE, Int.reduceEq, reduceIte, reduceCtorEq, da, int, boolA, h0, h3]
    | true =>
      rw [b] at cP hstep
      simp only [runStep, if_true] at hstep
      have hsk : Src B (kill K S) V s := hsrc.mono fun id b hid hg => kill_keep hr hg hid
      obtain ⟨P2, iP2, cP2⟩ := src_at hsk gi
      rw [b] at cP2
      have m0 : (runsT s i).length ≤ 100000 := by omega
      have put : prevT s i = false → AW T (.loop c48L0) (mkE 51 f) (hx K []) Q := by
        intro ep
        rw [ep] at hstep
        simp only [Bool.false_eq_true, if_false] at hstep
        generalize ho : runsT s i = out at *
        generalize hm : out.length = m at *
        have ap := fun nid L => appA_rep (nid := nid) (bytes := 16) hr.rep (xs := [runC ((i : Int), 0)]) (by simp) rfl (by simp; omega) L
        rw [List.length_map, hm] at ap
        simp only [runC, int, List.length_singleton] at ap
        have e1 : IntKind.i64.wrap (((m + 1 : Nat) : Int) - 1) = (m : Int) := by rw [wrap_i64 (by omega)]; omega
        have gg : (hx (kill K S) [.row false 2 [[.sc (.int .i64 i), .sc (.int .i64 0)]], .row false 2 (out.map runC ++ [[.sc (.int .i64 i), .sc (.int .i64 0)]])]).get (K.next + 1) = some (.row false 2 (out.map runC ++ [[.sc (.int .i64 i), .sc (.int .i64 0)]])) := by
          have := hx_get (kill K S) [.row false 2 [[.sc (.int .i64 i), .sc (.int .i64 0)]], .row false 2 (out.map runC ++ [[.sc (.int .i64 i), .sc (.int .i64 0)]])] 1
          rw [kill_next] at this
          rw [this]
          rfl
        have rm : (out.map runC ++ [[AV.sc (.int .i64 i), .sc (.int .i64 0)]])[m]? = some [.sc (.int .i64 i), .sc (.int .i64 0)] := by
          rw [List.getElem?_append_right (by simp [hm])]
          simp [hm]
        have i2 := ia_row (len := m + 1) gg (show m < m + 1 by omega)
        have c2 := fun off n => cells_row (off := off) (n := n) gg rm
        have gs : ∀ r, (hx (kill K S) [.row false 2 [[.sc (.int .i64 i), .sc (.int .i64 0)]], .row false 2 (out.map runC ++ [[.sc (.int .i64 i), .sc (.int .i64 0)]])]).set (K.next + 1) r = hx (kill K S) [.row false 2 [[.sc (.int .i64 i), .sc (.int .i64 0)]], r] := fun r => by
          have := hx_set (kill K S) [.row false 2 [[.sc (.int .i64 i), .sc (.int .i64 0)]], .row false 2 (out.map runC ++ [[.sc (.int .i64 i), .sc (.int .i64 0)]])] r 1
          rw [kill_next] at this
          rw [this]
          rfl
        have w01 : IntKind.i64.wrap (0 + 1) = 1 := rfl
        have hshape : (out.map runC ++ [[AV.sc (.int .i64 i), .sc (.int .i64 0)]]).set m [.sc (.int .i64 i), .sc (.int .i64 1)] = (out ++ [((i : Int), 1)]).map runC := by
          rw [List.set_append_right _ _ (by simp [hm])]
          simp [hm, runC, int]
        have fin : ∀ f' : Nat → AV, f' 0 = V → f' 3 = .sl (K.next + 1) 0 (m + 1) → f' 4 = int ((i + 1 : Nat) : Int) → AW T (.loop c48L0) (mkE 51 f') (hx (hx (kill K S) [.row false 2 [[.sc (.int .i64 i), .sc (.int .i64 0)]], .row false 2 ((out ++ [((i : Int), 1)]).map runC)]) []) Q := fun f' q0 q3 q4 => by
          refine ih (i + 1) (.sl (K.next + 1) 0 (m + 1)) _ f' (by omega) (.inr ⟨K.next + 1, by omega, ?_, ?_⟩) ?_ ?_ q0 q3 q4
          · rw [hstep]
            simp [hm]
          · rw [hstep]
            have := hx_get (kill K S) [.row false 2 [[.sc (.int .i64 i), .sc (.int .i64 0)]], .row false 2 ((out ++ [((i : Int), 1)]).map runC)] 1
            rw [kill_next] at this
            rw [this]
            rfl
          · exact fun id b h1 h2 => get_old (kill_keep hr (hk id b h1 h2) h1) _
          · rw [hx_next, kill_next]
            omega
        rw [AW_loop]
        unfold c48L0
        cases i with
        | zero =>
          have z1 : (((0 : Nat) : Int) == 0) = true := rfl
          simp only [↓vp, vz, Nat.reduceLT, Nat.reduceEqDiff, Nat.reduceLeDiff, Nat.reduceAdd, Nat.reduceSub, Nat.reduceMul, Int.reduceBEq, Int.reduceBNe, Int.reduceLT, Int.reduceLE, Int.reduceEq, reduceIte, reduceCtorEq, da, int, boolA, dr, h0, h3, h4, ln, g1, iP, cP, z1, ap, kill_next, iP2, cP2, e1, gg, rm, i2, c2, gs, w01, hshape, w1]
          rw [← hx_nil (hx _ _)]
          refine fin _ ?_ ?_ ?_ <;> simp only [↓vp, vz, Nat.reduceLT, Nat.reduceEqDiff, Nat.reduceLeDiff, Nat.reduceAdd, Nat.reduceSub, Nat.reduceMul, Int.reduceBEq, Int.reduceBNe, Int.reduceLT, Int.reduceLE, Int.reduceEq, reduceIte, reduceCtorEq, da, int, boolA, h0]
        | succ j =>
          have gj : j < s.length := by omega
          have ej : s[j] = false := by
            have : prevT s (j + 1) = s[j] := by simp [prevT, gj]
            rw [← this]; exact ep
          obtain ⟨Pj, iPj, cPj⟩ := src_at hsrc gj
          rw [ej] at cPj
          have z1 : (((j + 1 : Nat) : Int) == 0) = false := by simp; omega
          have w2 : IntKind.i64.wrap (((j + 1 : Nat) : Int) - 1) = (j : Int) := by rw [wrap_i64 (by omega)]; omega
          simp only [↓vp, vz, Nat.reduceLT, Nat.reduceEqDiff, Nat.reduceLeDiff, Nat.reduceAdd, Nat.reduceSub, Nat.reduceMul, Int.reduceBEq, Int.reduceBNe, Int.reduceLT, Int.reduceLE, Int.reduceEq, reduceIte, reduceCtorEq, da, int, boolA, dr, h0, h3, h4, ln, g1, iP, cP, z1, w2, iPj, cPj, ap, kill_next, iP2, cP2, e1, gg, rm, i2, c2, gs, w01, hshape, w1]
          rw [← hx_nil (hx _ _)]
          refine fin _ ?_ ?_ ?_ <;> simp only [↓vp, vz, Nat.reduceLT, Nat.reduceEqDiff, Nat.reduceLeDiff, Nat.reduceAdd, Nat.reduceSub, Nat.reduceMul, Int.reduceBEq, Int.reduceBNe, Int.reduceLT, Int.reduceLE, Int.reduceEq, reduceIte, reduceCtorEq, da, int, boolA, h0]
      cases ep : prevT s i with
      | false => exact put ep
      | true =>
        rw [ep] at hstep
        simp only [if_true] at hstep
        obtain ⟨j, rfl⟩ : ∃ j, i = j + 1 := ⟨i - 1, by
          unfold prevT at ep
          rw [Bool.and_eq_true, decide_eq_true_eq] at ep
          omega⟩
        have gj : j < s.length := by omega
        have ej : s[j] = true := by
          have : prevT s (j + 1) = s[j] := by simp [prevT, gj]
          rw [← this]; exact ep
        obtain ⟨Pj, iPj, cPj⟩ := src_at hsrc gj
        rw [ej] at cPj
        have z1 : (((j + 1 : Nat) : Int) == 0) = false := by simp; omega
        have w2 : IntKind.i64.wrap (((j + 1 : Nat) : Int) - 1) = (j : Int) := by rw [wrap_i64 (by omega)]; omega
        have hne := i1 ep
        generalize ho : runsT s (j + 1) = out at *
        obtain ⟨m, hm⟩ : ∃ m, out.length = m + 1 := ⟨out.length - 1, by have := List.length_pos_iff.2 hne; omega⟩
        have gm : m < out.length := by omega
        rw [incL_some hm] at hstep
        obtain ⟨id, hid, hS, hg⟩ : ∃ id, B ≤ id ∧ S = .sl id 0 out.length ∧ K.get id = some (.row false 2 (out.map runC)) := by
          rcases hr with ⟨_, h⟩ | ⟨id, h1, h2, h3⟩
          · rw [List.map_eq_nil_iff] at h
            exact absurd h hne
          · rw [List.length_map] at h2
            exact ⟨id, h1, h2, h3⟩
        have lid := Heap.get_lt hg
        have e1 : IntKind.i64.wrap ((out.length : Int) - 1) = (m : Int) := by rw [wrap_i64 (by omega)]; omega
        have ib : ∀ L, iaddrA (hx K L) none 2 S (m : Int) = some (.ptr id m 0) := fun L => by rw [hS]; exact ia_rr (H := hx K L) (get_old hg L) gm
        have cb := fun L off n => c_rr (H := hx K L) (off := off) (n := n) (get_old hg L) gm
        have gg := fun L => get_old (L := L) hg
        have gs : ∀ L b, (hx K L).set id b = hx (K.set id b) L := fun L b => hx_set_old K L b id lid
        have rm : (out.map runC)[m]? = some [.sc (.int .i64 out[m].1), .sc (.int .i64 out[m].2)] := by rw [List.getElem?_map, List.getElem?_eq_getElem gm]; rfl
        have b3 := i3 _ (List.getElem_mem gm)
        have w3 : IntKind.i64.wrap (out[m].2 + 1) = out[m].2 + 1 := wrap_i64 (by omega)
        have hshape : (out.map runC).set m [.sc (.int .i64 out[m].1), .sc (.int .i64 (out[m].2 + 1))] = (runsT s (j + 1 + 1)).map runC := by
          rw [hstep, List.map_set]
          rfl
        have hlen : (runsT s (j + 1 + 1)).length = out.length := by rw [hstep, List.length_set]
        rw [AW_loop]
        unfold c48L0
        simp only [↓vp, vz, Nat.reduceLT, Nat.reduceEqDiff, Nat.reduceLeDiff, Nat.reduceAdd, Nat.reduceSub, Nat.reduceMul, Int.reduceBEq, Int.reduceBNe, Int.reduceLT, Int.reduceLE, Int.reduceEq, reduceIte, reduceCtorEq, da, int, boolA, dr, h0, h3, h4, ln, lr, g1, iP, cP, z1, w2, iPj, cPj, e1, ib, cb, runC, gg, rm, w3, gs, hshape, w1]
        refine ih (j + 1 + 1) S (K.set id (.row false 2 ((runsT s (j + 1 + 1)).map runC))) _ (by omega) (.inr ⟨id, hid, ?_, ?_⟩) ?_ ?_ ?_ ?_ ?_
        · rw [List.length_map, hlen, hS]
        · rw [Heap.get_set_self _ lid]
        · intro id2 b h1 h2
          rw [Heap.get_set_ne _ (by omega), hk id2 b h1 h2]
        · rw [Heap.next_set]
          exact hB
        all_goals simp only [↓vp, vz, Nat.reduceLT, Nat.reduceEqDiff, Nat.reduceLeDiff, Nat.reduceAdd, Nat.reduceSub, Nat.reduceMul, Int.reduceBEq, Int.reduceBNe, Int.reduceLT, Int.reduceLE, Int.reduceEq, reduceIte, reduceCtorEq, da, int, boolA, h0, h3]
theorem p48 (hT : T 48 = some (.go true 51 r48 c48)) (s : List Bool) (hs : s.length ≤ 100000) {args : List AV} {H H1 : Heap} (hz : frzCells H args = some ([encT s],H1)) : callL T (.fn (.func 48) [] []) args H = some (encR (runsM s),H1):=by
 refine call_p (as':=[encT s]) hT (by simpa using hz) (by simp) ?_
 unfold c48 r48
 simp only [↓vp,vz,Nat.reduceLT,Nat.reduceEqDiff,Nat.reduceLeDiff,Nat.reduceAdd,Nat.reduceSub,Nat.reduceMul,Int.reduceBEq,Int.reduceBNe,Int.reduceLT,Int.reduceLE,Int.reduceEq,reduceIte,reduceCtorEq,da,int,boolA,dr]
 rw [← hx_nil (Heap.empty)]
 refine l48 s hs 0 (encT s) Heap.empty (.inl rfl) (fun f' K S hr hk h3 => ?_) s.length 0 (.sc (.slice none 0 0)) _ _ (by simp) (.inl ⟨rfl,rfl⟩) (fun _ _ _ h => h) (Nat.zero_le _) ?_ ?_ ?_
 ·unfold c48R1
  obtain ⟨K',hz⟩:=frz_rep (L:=[]) (by rw [hx_nil]; exact hr.rep) 23
  simp only [↓vp,vz,Nat.reduceLT,Nat.reduceEqDiff,Nat.reduceLeDiff,Nat.reduceAdd,Nat.reduceSub,Nat.reduceMul,Int.reduceBEq,Int.reduceBNe,Int.reduceLT,Int.reduceLE,Int.reduceEq,reduceIte,reduceCtorEq,h3]
  refine ret1 rfl (by decide) ?_
  simp only [↓vp,vz,Nat.reduceLT,Nat.reduceEqDiff,Nat.reduceLeDiff,Nat.reduceAdd,Nat.reduceSub,Nat.reduceMul,Int.reduceBEq,Int.reduceBNe,Int.reduceLT,Int.reduceLE,Int.reduceEq,reduceIte,reduceCtorEq]
  exact ⟨K',hz⟩
 all_goals first | rfl | (simp only [↓vp,vz,Nat.reduceLT,Nat.reduceEqDiff,Nat.reduceLeDiff,Nat.reduceAdd,Nat.reduceSub,Nat.reduceMul,Int.reduceBEq,Int.reduceBNe,Int.reduceLT,Int.reduceLE,Int.reduceEq,reduceIte,reduceCtorEq,da,int,boolA]; done)
end
theorem call_oW {ft : FT} {k : FuncId} {args : List AV} {H : Heap} {n : Nat} {rs : List ARes} {body : ACode} {P : AV → Heap → Prop} (hk : ft k = some (.go false n rs body)) (hl : args.length ≤ n)
  (h : AW ft body (mkE n (ofL args)) H fun x e H' => leaves x = true ∧ ∃ R,resultsA H' e rs = some R ∧ P R H') : KW ft (.fn (.func k) [] []) args H P:=by
 rw [← enterE_mkE _ _ hl] at h
 obtain ⟨x,e,Hc,h,hx,R,hr,hp⟩:=h
 refine ⟨R,Hc,?_,hp⟩
 rw [callL_fn]
 unfold callF
 simp only [hk,List.nil_append,List.append_nil,h,Option.bind_some,if_pos hx,hr,Option.map_some]
end Go.VI
namespace Go.VI
def pinR (x : RunM) (p : Int) : Bool:=decide (x.1 ≤ p) && decide (p < endM x)
def inR (l : List RunM) (p : Int) : Bool:=l.any fun x => pinR x p
theorem pinR_t {x : RunM} {p : Int} : pinR x p = true ↔ x.1 ≤ p ∧ p < endM x:=by simp [pinR]
theorem pinR_f {x : RunM} {p : Int} : pinR x p = false ↔ p < x.1 ∨ endM x ≤ p:=by
 rw [← Bool.not_eq_true,pinR_t]
 omega
theorem inR_nil (p : Int) : inR [] p = false:=rfl
theorem inR_cons (x : RunM) (l : List RunM) (p : Int) : inR (x :: l) p = (pinR x p || inR l p):=rfl
theorem inR_append (a b : List RunM) (p : Int) : inR (a ++ b) p = (inR a p || inR b p):=by simp [inR]
theorem inR_perm {a b : List RunM} (h : a.Perm b) (p : Int) : inR a p = inR b p:=by
 unfold inR
 rw [Bool.eq_iff_iff,List.any_eq_true,List.any_eq_true]
 exact ⟨fun ⟨x,h1,h2⟩ => ⟨x,h.mem_iff.1 h1,h2⟩,fun ⟨x,h1,h2⟩ => ⟨x,h.mem_iff.2 h1,h2⟩⟩
theorem inR_f {l : List RunM} {p : Int} : inR l p = false ↔ ∀ x ∈ l,p < x.1 ∨ endM x ≤ p:=by
 unfold inR
 rw [List.any_eq_false]
 exact ⟨fun h x hx => pinR_f.1 (by simpa using h x hx),fun h x hx => by simpa using pinR_f.2 (h x hx)⟩
theorem inR_t {l : List RunM} {p : Int} : inR l p = true ↔ ∃ x ∈ l,x.1 ≤ p ∧ p < endM x:=by
 unfold inR
 rw [List.any_eq_true]
 exact ⟨fun ⟨x,h1,h2⟩ => ⟨x,h1,pinR_t.1 h2⟩,fun ⟨x,h1,h2⟩ => ⟨x,h1,pinR_t.2 h2⟩⟩
theorem rgt_cons {e : Int} {x : RunM} {l : List RunM} : rgtL e (x :: l) = true ↔ mayM x = true ∧ e < x.1 ∧ rgtL (endM x) l = true:=by simp [rgtL]
theorem rgt_lt : ∀ {l : List RunM} {e : Int},rgtL e l = true → ∀ x ∈ l,e < x.1
 | [],_,_,x,hx => by cases hx
 | y :: l,e,h,x,hx => by
  obtain ⟨h1,h2,h3⟩:=rgt_cons.1 h
  rcases List.mem_cons.1 hx with rfl | hx
  ·exact h2
  ·have:=rgt_lt h3 x hx
   have:=mayM_iff.1 h1
   unfold endM at *
   omega
theorem rgt_ext : ∀ {a b : List RunM} {e e' : Int},rgtL e a = true → rgtL e' b = true → (∀ p,inR a p = inR b p) → a = b
 | [],[],_,_,_,_,_ => rfl
 | [],y :: b,e,e',_,hb,h => by
  obtain ⟨h1,h2,h3⟩:=rgt_cons.1 hb
  have h1:=mayM_iff.1 h1
  have:=h y.1
  rw [inR_nil,eq_comm,inR_f] at this
  have:=this y (by simp)
  unfold endM at this
  omega
 | x :: a,[],e,e',ha,_,h => by
  obtain ⟨h1,h2,h3⟩:=rgt_cons.1 ha
  have h1:=mayM_iff.1 h1
  have:=h x.1
  rw [inR_nil,inR_f] at this
  have:=this x (by simp)
  unfold endM at this
  omega
 | x :: a,y :: b,e,e',ha,hb,h => by
  obtain ⟨a1,a2,a3⟩:=rgt_cons.1 ha
  obtain ⟨b1,b2,b3⟩:=rgt_cons.1 hb
  have mx:=mayM_iff.1 a1
  have my:=mayM_iff.1 b1
  have ex : endM x = x.1 + x.2:=rfl
  have ey : endM y = y.1 + y.2:=rfl
  have la:=rgt_lt a3
  have lb:=rgt_lt b3
  have k1 : y.1 ≤ x.1:=by
   have h1 : inR (y :: b) x.1 = true:=by
    rw [← h,inR_t]
    exact ⟨x,by simp,by omega,by omega⟩
   obtain ⟨z,hz,q1,q2⟩:=inR_t.1 h1
   rcases List.mem_cons.1 hz with rfl | hz
   ·exact q1
   ·have:=lb z hz
    omega
  have k2 : x.1 ≤ y.1:=by
   have h1 : inR (x :: a) y.1 = true:=by
    rw [h,inR_t]
    exact ⟨y,by simp,by omega,by omega⟩
   obtain ⟨z,hz,q1,q2⟩:=inR_t.1 h1
   rcases List.mem_cons.1 hz with rfl | hz
   ·exact q1
   ·have:=la z hz
    omega
  have k3 : endM y ≤ endM x:=by
   rcases Int.lt_or_le (endM x) (endM y) with hlt | hle
   ·have h1 : inR (x :: a) (endM x) = true:=by
     rw [h,inR_t]
     exact ⟨y,by simp,by omega,by omega⟩
    obtain ⟨z,hz,q1,q2⟩:=inR_t.1 h1
    rcases List.mem_cons.1 hz with rfl | hz
    ·omega
    ·have:=la z hz
     omega
   ·exact hle
  have k4 : endM x ≤ endM y:=by
   rcases Int.lt_or_le (endM y) (endM x) with hlt | hle
   ·have h1 : inR (y :: b) (endM y) = true:=by
     rw [← h,inR_t]
     exact ⟨x,by simp,by omega,by omega⟩
    obtain ⟨z,hz,q1,q2⟩:=inR_t.1 h1
    rcases List.mem_cons.1 hz with rfl | hz
    ·omega
    ·have:=lb z hz
     omega
   ·exact hle
  have exy : x = y:=Prod.ext (by omega) (by omega)
  subst exy
  congr 1
  refine rgt_ext a3 b3 fun p => ?_
  have hp:=h p
  rw [inR_cons,inR_cons] at hp
  cases e1 : pinR x p with
  | false => rw [e1] at hp; simpa using hp
  | true =>
   have:=pinR_t.1 e1
   have q1 : inR a p = false:=inR_f.2 fun z hz => by have:=la z hz; omega
   have q2 : inR b p = false:=inR_f.2 fun z hz => by have:=lb z hz; omega
   rw [q1,q2]
theorem right_ext {a b : List RunM} (ha : rightM a = true) (hb : rightM b = true) (h : ∀ p,inR a p = inR b p) : a = b:=rgt_ext ha hb h
theorem rgt_snoc : ∀ {l : List RunM} {e : Int} {x : RunM},rgtL e (l ++ [x]) = true ↔ rgtL e l = true ∧ mayM x = true ∧ e < x.1 ∧ ∀ y ∈ l,endM y < x.1
 | [],e,x => by simp [rgt_cons,rgtL]
 | z :: l,e,x => by
  rw [List.cons_append,rgt_cons,rgt_snoc,rgt_cons]
  constructor
  ·rintro ⟨h1,h2,h3,h4,h5,h6⟩
   have:=mayM_iff.1 h1
   refine ⟨⟨h1,h2,h3⟩,h4,?_,fun y hy => ?_⟩
   ·unfold endM at h5
    omega
   ·rcases List.mem_cons.1 hy with rfl | hy
    ·exact h5
    ·exact h6 y hy
  ·rintro ⟨⟨h1,h2,h3⟩,h4,h5,h6⟩
   exact ⟨h1,h2,h3,h4,h6 z (by simp),fun y hy => h6 y (by simp [hy])⟩
theorem right_end {l : List RunM} (h : rightM l = true) : ∀ x ∈ l,0 ≤ x.1 ∧ endM x ≤ 32768:=fun x hx => by
 have:=mayM_iff.1 (rgt_may h x hx)
 unfold endM
 omega
structure RunsI (s : List Bool) (i : Nat) : Prop where
 rg : rgtL (-1) (runsT s i) = true
 at_ : ∀ p : Nat,p < i → inR (runsT s i) p = s.getD p false
 le : ∀ x ∈ runsT s i,endM x ≤ i
 last : prevT s i = true → ∃ l x,runsT s i = l ++ [x] ∧ endM x = i
 lt : prevT s i = false → ∀ x ∈ runsT s i,endM x < i
theorem runsI (s : List Bool) : ∀ i,i ≤ 32768 → RunsI s i
 | 0,_ => ⟨rfl,fun p hp => by omega,by simp [runsT],by simp [prevT],by simp [runsT]⟩
 | i + 1,hi => by
  have ih:=runsI s i (by omega)
  have hp : prevT s (i + 1) = s.getD i false:=by simp [prevT]
  have hr : runsT s (i + 1) = runStep (prevT s i) (s.getD i false) i (runsT s i):=rfl
  have out : inR (runsT s i) (i : Int) = false:=inR_f.2 fun x hx => .inr (ih.le x hx)
  cases e : s.getD i false with
  | false =>
   have hr' : runsT s (i + 1) = runsT s i:=by rw [hr,e]; rfl
   refine ⟨by rw [hr']; exact ih.rg,fun p hp => ?_,fun x hx => ?_,fun h => ?_,fun _ x hx => ?_⟩
   ·rw [hr']
    rcases Nat.lt_or_ge p i with h | h
    ·exact ih.at_ p h
    ·obtain rfl : p = i:=by omega
     rw [out,e]
   ·rw [hr'] at hx
    have:=ih.le x hx
    omega
   ·rw [hp,e] at h; cases h
   ·rw [hr'] at hx
    have:=ih.le x hx
    omega
  | true =>
   cases ep : prevT s i with
   | false =>
    have hr' : runsT s (i + 1) = runsT s i ++ [((i : Int),1)]:=by rw [hr,e,ep]; rfl
    have hl:=ih.lt ep
    have e1 : endM ((i : Int),1) = (i : Int) + 1:=rfl
    refine ⟨?_,fun p hp => ?_,fun x hx => ?_,fun _ => ⟨_,_,hr',by rw [e1]; omega⟩,fun h => by rw [hp,e] at h; cases h⟩
    ·rw [hr',rgt_snoc]
     refine ⟨ih.rg,mayM_iff.2 ⟨by simp,by simp,by simp; omega,by simp; omega⟩,by simp; omega,fun y hy => hl y hy⟩
    ·rw [hr',inR_append,inR_cons,inR_nil,Bool.or_false]
     rcases Nat.lt_or_ge p i with h | h
     ·rw [ih.at_ p h,pinR_f.2 (.inl (by simp; omega)),Bool.or_false]
     ·obtain rfl : p = i:=by omega
      rw [out,e,Bool.false_or,pinR_t,e1]
      simp
      omega
    ·rw [hr'] at hx
     rcases List.mem_append.1 hx with hx | hx
     ·have:=ih.le x hx
      omega
     ·simp at hx
      rw [hx,e1]
      omega
   | true =>
    obtain ⟨l,x,hlx,hex⟩:=ih.last ep
    have hr' : runsT s (i + 1) = l ++ [(x.1,x.2 + 1)]:=by rw [hr,e,ep,hlx]; exact incL_snoc l x
    have hrg:=ih.rg
    rw [hlx,rgt_snoc] at hrg
    obtain ⟨r1,r2,r3,r4⟩:=hrg
    have mx:=mayM_iff.1 r2
    have e0 : endM x = x.1 + x.2:=rfl
    have e1 : endM (x.1,x.2 + 1) = x.1 + (x.2 + 1):=rfl
    refine ⟨?_,fun p hp => ?_,fun z hz => ?_,fun _ => ⟨_,_,hr',by rw [e1]; omega⟩,fun h => by rw [hp,e] at h; cases h⟩
    ·rw [hr',rgt_snoc]
     exact ⟨r1,mayM_iff.2 ⟨by simp; omega,by simp; omega,by simp; omega,by simp; omega⟩,by simpa using r3,fun y hy => by simpa using r4 y hy⟩
    ·have hat:=ih.at_ p
     rw [hr',inR_append,inR_cons,inR_nil,Bool.or_false]
     rcases Nat.lt_or_ge p i with h | h
     ·rw [← ih.at_ p h,hlx,inR_append,inR_cons,inR_nil,Bool.or_false]
      congr 1
      unfold pinR
      rw [e1]
      congr 1
      rw [decide_eq_decide]
      omega
     ·obtain rfl : p = i:=by omega
      rw [e,pinR_t.2 ⟨by simp; omega,by rw [e1]; omega⟩,Bool.or_true]
    ·rw [hr'] at hz
     rcases List.mem_append.1 hz with hz | hz
     ·have:=ih.le z (by rw [hlx]; simp [hz])
      omega
     ·simp at hz
      rw [hz,e1]
      omega
theorem runsM_right {s : List Bool} (hs : s.length ≤ 32768) : rightM (runsM s) = true:=(runsI s _ hs).rg
theorem runsM_in {s : List Bool} (hs : s.length ≤ 32768) (p : Int) : inR (runsM s) p = (decide (0 ≤ p) && s.getD p.toNat false):=by
 have hI:=runsI s _ hs
 have hr:=right_end (runsM_right hs)
 rcases Int.lt_or_le p 0 with h | h
 ·rw [decide_eq_false (by omega),Bool.false_and,inR_f]
  exact fun x hx => .inl (by have:=hr x hx; omega)
 ·rw [decide_eq_true h,Bool.true_and]
  rcases Nat.lt_or_ge p.toNat s.length with h1 | h1
  ·rw [← hI.at_ _ h1]
   unfold runsM
   congr 1
   omega
  ·have : s.getD p.toNat false = false:=by rw [List.getD_eq_getElem?_getD,List.getElem?_eq_none h1]; rfl
   rw [this,inR_f]
   exact fun x hx => .inr (by have:=hI.le x hx; omega)
theorem runsM_eq {s : List Bool} (hs : s.length ≤ 32768) {a : List RunM} (ha : rightM a = true) (h : ∀ p : Int,inR a p = (decide (0 ≤ p) && s.getD p.toNat false)) : runsM s = a :=
 right_ext (runsM_right hs) ha fun p => by rw [runsM_in hs,h]
end Go.VI
namespace Go.VI
theorem rgt_iff : ∀ {l : List RunM} {e : Int},rgtL e l = true ↔ (∀ x ∈ l,mayM x = true ∧ e < x.1) ∧ l.Pairwise fun a b => endM a < b.1
 | [],e => by simp [rgtL]
 | y :: l,e => by
  rw [rgt_cons,rgt_iff,List.pairwise_cons]
  constructor
  ·rintro ⟨h1,h2,h3,h4⟩
   have m1:=mayM_iff.1 h1
   refine ⟨fun x hx => ?_,fun x hx => (h3 x hx).2,h4⟩
   rcases List.mem_cons.1 hx with rfl | hx
   ·exact ⟨h1,h2⟩
   ·have:=h3 x hx
    refine ⟨this.1,?_⟩
    have:=this.2
    unfold endM at this
    omega
  ·rintro ⟨h1,h2,h3⟩
   exact ⟨(h1 y (by simp)).1,(h1 y (by simp)).2,fun x hx => ⟨(h1 x (by simp [hx])).1,h2 x hx⟩,h3⟩
theorem right_iff {l : List RunM} : rightM l = true ↔ (∀ x ∈ l,mayM x = true) ∧ l.Pairwise fun a b => endM a < b.1:=by
 unfold rightM
 rw [rgt_iff]
 refine ⟨fun h => ⟨fun x hx => (h.1 x hx).1,h.2⟩,fun h => ⟨fun x hx => ⟨h.1 x hx,?_⟩,h.2⟩⟩
 have:=mayM_iff.1 (h.1 x hx)
 omega
theorem clean_right (l : List RunM) : rightM (cleanM l) = true:=by
 unfold cleanM
 split
 ·assumption
 ·rfl
theorem clean_of {l : List RunM} (h : rightM l = true) : cleanM l = l:=by unfold cleanM; rw [if_pos h]
theorem clean_clean (l : List RunM) : cleanM (cleanM l) = cleanM l:=clean_of (clean_right l)
theorem beq_iff' {a b : Bool} (h : a = true ↔ b = true) : a = b:=Bool.eq_iff_iff.2 h
theorem may_pin {x : RunM} (h : mayM x = true) : pinR x x.1 = true:=by
 have:=mayM_iff.1 h
 rw [pinR_t]
 unfold endM
 omega
theorem in_pos {c : List RunM} (h : ∀ x ∈ c,mayM x = true) {p : Int} (hp : inR c p = true) : 0 ≤ p ∧ p < 32768:=by
 obtain ⟨x,hx,h1,h2⟩:=inR_t.1 hp
 have:=mayM_iff.1 (h x hx)
 unfold endM at h2
 omega
theorem joinS_snoc (b : List RunM) (y x : RunM) : joinS (b ++ [y]) x = if x.1 > endM y then b ++ [y] ++ [x] else b ++ [(y.1,mxM (endM y) (endM x) - y.1)]:=by
 rw [joinS_some (m:=b.length) (by simp)]
 simp
theorem joinS_ok {a : List RunM} {x : RunM} (ha : rgtL (-1) a = true) (hx : mayM x = true) (hs : ∀ y ∈ a,y.1 ≤ x.1) :
  rgtL (-1) (joinS a x) = true ∧ (∀ p,inR (joinS a x) p = (inR a p || pinR x p)) ∧ ∀ y ∈ joinS a x,y.1 ≤ x.1:=by
 have mx:=mayM_iff.1 hx
 have ex : endM x = x.1 + x.2:=rfl
 rcases List.eq_nil_or_concat a with rfl | ⟨b,y,rfl⟩
 ·rw [joinS_nil]
  refine ⟨?_,fun p => by simp [inR_cons,inR_nil],by simp⟩
  rw [List.nil_append,rgt_cons]
  exact ⟨hx,by omega,rfl⟩
 ·rw [List.concat_eq_append] at *
  obtain ⟨r1,r2,r3,r4⟩:=rgt_snoc.1 ha
  have my:=mayM_iff.1 r2
  have ey : endM y = y.1 + y.2:=rfl
  have hyx:=hs y (by simp)
  rw [joinS_snoc]
  split
  ·rename_i hgt
   refine ⟨rgt_snoc.2 ⟨ha,hx,by omega,fun z hz => ?_⟩,fun p => by rw [inR_append,inR_cons,inR_nil,Bool.or_false],fun z hz => ?_⟩
   ·rcases List.mem_append.1 hz with hz | hz
    ·have:=r4 z hz
     omega
    ·simp at hz
     rw [hz]; omega
   ·rcases List.mem_append.1 hz with hz | hz
    ·exact hs z hz
    ·simp at hz
     rw [hz]; omega
  ·rename_i hgt
   have e3 : endM (y.1,mxM (endM y) (endM x) - y.1) = mxM (endM y) (endM x):=by unfold endM; simp only; omega
   have e4 : endM y ≤ mxM (endM y) (endM x) ∧ endM x ≤ mxM (endM y) (endM x) ∧ (mxM (endM y) (endM x) = endM y ∨ mxM (endM y) (endM x) = endM x):=by unfold mxM; split <;> omega
   refine ⟨rgt_snoc.2 ⟨r1,mayM_iff.2 ?_,r3,r4⟩,fun p => ?_,fun z hz => ?_⟩
   ·simp only
    omega
   ·rw [inR_append,inR_append,inR_cons,inR_nil,Bool.or_false,inR_cons,inR_nil,Bool.or_false,Bool.or_assoc]
    congr 1
    refine beq_iff' ?_
    rw [Bool.or_eq_true,pinR_t,pinR_t,pinR_t,e3]
    simp only
    omega
   ·rcases List.mem_append.1 hz with hz | hz
    ·exact hs z (by simp [hz])
    ·simp at hz
     rw [hz]; exact hyx
theorem joinF_ok : ∀ (s a : List RunM),rgtL (-1) a = true → (∀ x ∈ s,mayM x = true) → (s.Pairwise fun a b => a.1 ≤ b.1) → (∀ y ∈ a,∀ x ∈ s,y.1 ≤ x.1) →
  rgtL (-1) (s.foldl joinS a) = true ∧ ∀ p,inR (s.foldl joinS a) p = (inR a p || inR s p)
 | [],a,ha,_,_,_ => ⟨ha,fun p => by simp [inR_nil]⟩
 | x :: s,a,ha,hm,hp,hs => by
  obtain ⟨h1,h2,h3⟩:=joinS_ok ha (hm x (by simp)) fun y hy => hs y hy x (by simp)
  rw [List.pairwise_cons] at hp
  have:=joinF_ok s (joinS a x) h1 (fun y hy => hm y (by simp [hy])) hp.2 fun y hy z hz => by
   have q1:=h3 y hy
   have q2:=hp.1 z hz
   omega
  refine ⟨this.1,fun p => ?_⟩
  rw [List.foldl_cons,this.2,h2,inR_cons,Bool.or_assoc]
theorem joinM_ok {l : List RunM} (h : ∀ x ∈ l,mayM x = true) : rightM (joinM l) = true ∧ ∀ p,inR (joinM l) p = inR l p:=by
 have:=joinF_ok (sortR l) [] rfl (sortR_may h) (sortR_sorted l) (by simp)
 refine ⟨this.1,fun p => ?_⟩
 unfold joinM
 rw [this.2,inR_nil,Bool.false_or]
 exact inR_perm (sortR_perm h) p
theorem idxM_split (q : RunM → Bool) {xa bs : List RunM} {b : RunM} (h1 : ∀ a ∈ xa,q a = false) (h2 : q b = true) : ∀ i : Nat,idxM q i (xa ++ b :: bs) = (i : Int) + xa.length:=by
 induction xa with
 | nil => intro i; simp [idxM,h2]
 | cons a xa ih =>
  intro i
  rw [List.cons_append,idxM,h1 a (by simp)]
  simp only [Bool.false_eq_true,if_false]
  rw [ih fun x hx => h1 x (by simp [hx])]
  simp only [List.length_cons]
  omega
theorem any_split (q : RunM → Bool) : ∀ {l : List RunM},l.any q = true → ∃ xa b bs,l = xa ++ b :: bs ∧ q b = true ∧ ∀ a ∈ xa,q a = false
 | [],h => by cases h
 | x :: l,h => by
  cases e : q x with
  | true => exact ⟨[],x,l,rfl,e,by simp⟩
  | false =>
   rw [List.any_cons,e,Bool.false_or] at h
   obtain ⟨xa,b,bs,h1,h2,h3⟩:=any_split q h
   refine ⟨x :: xa,b,bs,by rw [h1]; rfl,h2,fun a ha => ?_⟩
   rcases List.mem_cons.1 ha with rfl | ha
   ·exact e
   ·exact h3 a ha
theorem idx_split {q : RunM → Bool} {l : List RunM} (h : 0 ≤ idxM q 0 l) : ∃ xa b bs,l = xa ++ b :: bs ∧ q b = true ∧ (∀ a ∈ xa,q a = false) ∧ idxM q 0 l = xa.length:=by
 have h1:=(idxM_neg q l 0).1
 rw [decide_eq_true h] at h1
 obtain ⟨xa,b,bs,e,h2,h3⟩:=any_split q h1.symm
 refine ⟨xa,b,bs,e,h2,h3,?_⟩
 rw [e,idxM_split q h3 h2]
 simp
theorem overB_t {x y : RunM} (hx : mayM x = true) (hy : mayM y = true) : overB x y = true ↔ y.1 < endM x ∧ x.1 < endM y:=by
 unfold overB
 rw [endW_may hx,endW_may hy]
 simp
theorem overB_pg {x y : RunM} (hx : mayM x = true) (hy : mayM y = true) : overB x y = true ↔ ∃ p,pinR x p = true ∧ pinR y p = true:=by
 rw [overB_t hx hy]
 have m1:=mayM_iff.1 hx
 have m2:=mayM_iff.1 hy
 have e1 : endM x = x.1 + x.2:=rfl
 have e2 : endM y = y.1 + y.2:=rfl
 constructor
 ·rintro ⟨h1,h2⟩
  rcases Int.le_total x.1 y.1 with h | h
  ·exact ⟨y.1,pinR_t.2 ⟨h,h1⟩,may_pin hy⟩
  ·exact ⟨x.1,may_pin hx,pinR_t.2 ⟨h,h2⟩⟩
 ·rintro ⟨p,h1,h2⟩
  rw [pinR_t] at h1 h2
  omega
theorem over_t {l : List RunM} {x : RunM} (hx : mayM x = true) (hl : ∀ y ∈ l,mayM y = true) : 0 ≤ overI l x ↔ ∃ p,inR l p = true ∧ pinR x p = true:=by
 have h1:=(idxM_neg (overB x) l 0).1
 rw [show (0 ≤ overI l x ↔ ∃ p,inR l p = true ∧ pinR x p = true) = (decide (0 ≤ idxM (overB x) 0 l) = true ↔ ∃ p,inR l p = true ∧ pinR x p = true) by rw [decide_eq_true_eq]; rfl,h1,List.any_eq_true]
 constructor
 ·rintro ⟨y,hy,h⟩
  obtain ⟨p,p1,p2⟩:=(overB_pg hx (hl y hy)).1 h
  exact ⟨p,inR_t.2 ⟨y,hy,pinR_t.1 p2⟩,p1⟩
 ·rintro ⟨p,p1,p2⟩
  obtain ⟨y,hy,h⟩:=inR_t.1 p1
  exact ⟨y,hy,(overB_pg hx (hl y hy)).2 ⟨p,p2,pinR_t.2 h⟩⟩
theorem right_mid {xa bs : List RunM} {y : RunM} (h : rightM (xa ++ y :: bs) = true) : (∀ a ∈ xa,endM a < y.1) ∧ (∀ b ∈ bs,endM y < b.1) ∧ ∀ a ∈ xa,∀ b ∈ bs,endM a < b.1:=by
 have:=(right_iff.1 h).2
 rw [List.pairwise_append,List.pairwise_cons] at this
 exact ⟨fun a ha => this.2.2 a ha y (by simp),fun b hb => this.2.1.1 b hb,fun a ha b hb => this.2.2 a ha b (by simp [hb])⟩
theorem drop_split {c : List RunM} (hc : rightM c = true) {x : RunM} (hx : mayM x = true) (h0 : 0 ≤ overI c x) : ∃ xa y bs,c = xa ++ y :: bs ∧ dropK c x = xa.length ∧ overB x y = true ∧ ((∀ p,pinR x p = true → inR c p = true) ↔ y.1 ≤ x.1 ∧ endM x ≤ endM y):=by
 obtain ⟨xa,y,bs,e,h1,h2,h3⟩:=idx_split h0
 refine ⟨xa,y,bs,e,?_,h1,?_⟩
 ·unfold dropK overI
  omega
 have hm:=(right_iff.1 hc).1
 have hy : mayM y = true:=hm y (by rw [e]; simp)
 have ho:=(overB_t hx hy).1 h1
 rw [e] at hc
 obtain ⟨m1,m2,m3⟩:=right_mid hc
 have qx:=mayM_iff.1 hx
 have ex : endM x = x.1 + x.2:=rfl
 constructor
 ·intro h
  have k1 : y.1 ≤ x.1:=by
   have:=h x.1 (may_pin hx)
   obtain ⟨z,hz,z1,z2⟩:=inR_t.1 this
   rw [e] at hz
   rcases List.mem_append.1 hz with hz' | hz'
   ·have hov : overB x z = true:=(overB_t hx (hm z (by rw [e]; exact hz))).2 ⟨by omega,z2⟩
    rw [h2 z hz'] at hov
    cases hov
   ·rcases List.mem_cons.1 hz' with rfl | hz'
    ·exact z1
    ·have:=m2 z hz'
     omega
  refine ⟨k1,?_⟩
  rcases Int.lt_or_le (endM y) (endM x) with hlt | hle
  ·have:=h (endM y) (pinR_t.2 ⟨by omega,hlt⟩)
   obtain ⟨z,hz,z1,z2⟩:=inR_t.1 this
   rw [e] at hz
   have qy:=mayM_iff.1 hy
   have ey : endM y = y.1 + y.2:=rfl
   rcases List.mem_append.1 hz with hz' | hz'
   ·have:=m1 z hz'
    omega
   ·rcases List.mem_cons.1 hz' with rfl | hz'
    ·omega
    ·have:=m2 z hz'
     omega
  ·exact hle
 ·rintro ⟨k1,k2⟩ p hp
  rw [pinR_t] at hp
  exact inR_t.2 ⟨y,by rw [e]; simp,by omega,by omega⟩
theorem dropB_iff {l : List RunM} {x : RunM} : dropB l x = true ↔ mayM x = true ∧ ∀ p,pinR x p = true → inR (cleanM l) p = true:=by
 have hc:=clean_right l
 unfold dropB
 rw [Bool.and_eq_true,Bool.and_eq_true,decide_eq_true_eq,and_assoc]
 refine and_congr_right fun hm => ?_
 constructor
 ·rintro ⟨h1,h2⟩
  obtain ⟨xa,y,bs,e,hk,_,hi⟩:=drop_split hc hm h1
  rw [hk,e] at h2
  rw [List.getElem?_append_right (Nat.le_refl _)] at h2
  simp at h2
  exact hi.2 h2
 ·intro h
  have h1 : 0 ≤ overI (cleanM l) x:=(over_t hm (clean_may l)).2 ⟨x.1,h _ (may_pin hm),may_pin hm⟩
  obtain ⟨xa,y,bs,e,hk,_,hi⟩:=drop_split hc hm h1
  refine ⟨h1,?_⟩
  rw [hk,e]
  rw [List.getElem?_append_right (Nat.le_refl _)]
  simp
  exact hi.1 h
theorem inR_nz (l : List RunM) (p : Int) : inR (l.filter nzR) p = inR l p:=by
 induction l with
 | nil => rfl
 | cons x l ih =>
  rw [List.filter_cons]
  cases e : nzR x with
  | true => simp only [if_true,inR_cons,ih]
  | false =>
   have : x.2 = 0:=by simpa [nzR] using e
   have hp : pinR x p = false:=by
    rw [pinR_f]
    unfold endM
    omega
   simp only [Bool.false_eq_true,if_false,inR_cons,ih,hp,Bool.false_or]
theorem dropM_ok (l : List RunM) (x : RunM) : rightM (dropM l x) = true ∧ ∀ p,inR (dropM l x) p = (inR (cleanM l) p && !(dropB l x && pinR x p)):=by
 have hc:=clean_right l
 unfold dropM
 cases e : dropB l x with
 | false =>
  simp only [Bool.false_eq_true,if_false,Bool.false_and,Bool.not_false,Bool.and_true]
  exact ⟨hc,fun _ => trivial⟩
 | true =>
  simp only [if_true,Bool.true_and]
  obtain ⟨hm,ha⟩:=dropB_iff.1 e
  have h1 : 0 ≤ overI (cleanM l) x:=(over_t hm (clean_may l)).2 ⟨x.1,ha _ (may_pin hm),may_pin hm⟩
  obtain ⟨xa,y,bs,ec,hk,_,hi⟩:=drop_split hc hm h1
  obtain ⟨k1,k2⟩:=hi.1 ha
  have hmc:=(right_iff.1 hc).1
  rw [hk,ec,List.getElem?_append_right (Nat.le_refl _)]
  simp only [Nat.sub_self,List.getElem?_cons_zero]
  have ep : putR (xa ++ y :: bs) xa.length ((dropP y x).filter nzR) = xa ++ ((dropP y x).filter nzR ++ bs):=by
   unfold putR
   rw [List.take_left' rfl,show xa.length + 1 = (xa ++ [y]).length by simp,show xa ++ y :: bs = (xa ++ [y]) ++ bs by simp,List.drop_left' rfl,List.append_assoc]
  rw [ep]
  rw [ec] at hc hmc
  obtain ⟨m1,m2,m3⟩:=right_mid hc
  have hy : mayM y = true:=hmc y (by simp)
  have qx:=mayM_iff.1 hm
  have qy:=mayM_iff.1 hy
  have ex : endM x = x.1 + x.2:=rfl
  have ey : endM y = y.1 + y.2:=rfl
  have e1 : endM (y.1,x.1 - y.1) = x.1:=by unfold endM; simp only; omega
  have e2 : endM (endM x,endM y - endM x) = endM y:=by
   show endM x + (endM y - endM x) = endM y
   omega
  have hmem : ∀ z ∈ (dropP y x).filter nzR,mayM z = true ∧ y.1 ≤ z.1 ∧ endM z ≤ endM y:=by
   intro z hz
   rw [List.mem_filter] at hz
   obtain ⟨hz,hn⟩:=hz
   have hn : z.2 ≠ 0:=by simpa [nzR] using hn
   simp only [dropP,List.mem_cons,List.not_mem_nil,or_false] at hz
   rcases hz with rfl | rfl
   ·simp only at hn
    refine ⟨mayM_iff.2 ?_,?_,?_⟩
    ·simp only; omega
    ·simp only; omega
    ·rw [e1]; omega
   ·simp only at hn
    refine ⟨mayM_iff.2 ?_,?_,?_⟩
    ·simp only; omega
    ·simp only; omega
    ·rw [e2]; omega
  have hpw : ((dropP y x).filter nzR).Pairwise fun a b => endM a < b.1:=by
   refine List.Pairwise.filter _ ?_
   unfold dropP
   rw [List.pairwise_cons]
   refine ⟨fun z hz => ?_,List.pairwise_singleton _ _⟩
   simp at hz
   rw [hz,e1]
   simp only
   omega
  have hp0:=(right_iff.1 hc).2
  rw [List.pairwise_append,List.pairwise_cons] at hp0
  refine ⟨right_iff.2 ⟨fun z hz => ?_,?_⟩,fun p => ?_⟩
  ·rcases List.mem_append.1 hz with hz | hz
   ·exact hmc z (by simp [hz])
   ·rcases List.mem_append.1 hz with hz | hz
    ·exact (hmem z hz).1
    ·exact hmc z (by simp [hz])
  ·rw [List.pairwise_append,List.pairwise_append]
   refine ⟨hp0.1,⟨hpw,hp0.2.1.2,fun a ha b hb => ?_⟩,fun a ha b hb => ?_⟩
   ·have q1:=hmem a ha
    have q2:=m2 b hb
    omega
   ·rcases List.mem_append.1 hb with hb | hb
    ·have q1:=hmem b hb
     have q2:=m1 a ha
     omega
    ·exact m3 a ha b hb
  ·rw [inR_append,inR_append,inR_append,inR_cons,inR_nz]
   have hF : inR (dropP y x) p = (pinR y p && !pinR x p):=by
    unfold dropP
    rw [inR_cons,inR_cons,inR_nil,Bool.or_false]
    refine beq_iff' ?_
    rw [Bool.or_eq_true,Bool.and_eq_true,Bool.not_eq_true',pinR_t,pinR_t,pinR_t,pinR_f,e1,e2]
    simp only
    omega
   rw [hF]
   cases ex1 : pinR x p with
   | false => simp
   | true =>
    rw [pinR_t] at ex1
    have a0 : inR xa p = false:=inR_f.2 fun z hz => by have:=m1 z hz; omega
    have b0 : inR bs p = false:=inR_f.2 fun z hz => by have:=m2 z hz; omega
    rw [a0,b0]
    simp
theorem unionM_ok (a b : List RunM) : rightM (unionM a b) = true ∧ ∀ p,inR (unionM a b) p = (inR (cleanM a) p || inR (cleanM b) p):=by
 have:=joinM_ok (cleans_may a b)
 refine ⟨this.1,fun p => ?_⟩
 unfold unionM
 rw [this.2,inR_append]
theorem meetM_iff {a b : List RunM} : meetM a b = true ↔ ∃ p,inR (cleanM a) p = true ∧ inR (cleanM b) p = true:=by
 unfold meetM
 rw [List.any_eq_true]
 constructor
 ·rintro ⟨y,hy,h⟩
  rw [decide_eq_true_eq] at h
  obtain ⟨p,p1,p2⟩:=(over_t (clean_may a y hy) (clean_may b)).1 h
  exact ⟨p,inR_t.2 ⟨y,hy,pinR_t.1 p2⟩,p1⟩
 ·rintro ⟨p,p1,p2⟩
  obtain ⟨y,hy,h⟩:=inR_t.1 p1
  exact ⟨y,hy,decide_eq_true ((over_t (clean_may a y hy) (clean_may b)).2 ⟨p,p2,pinR_t.2 h⟩)⟩
end Go.VI
namespace Go.VI
theorem pgs_mem {x : RunM} (h : mayM x = true) {p : Int} : p ∈ pgs x x.2.toNat ↔ pinR x p = true:=by
 have m:=mayM_iff.1 h
 unfold pgs
 rw [List.mem_map,pinR_t]
 unfold endM
 constructor
 ·rintro ⟨k,hk,rfl⟩
  rw [List.mem_range] at hk
  omega
 ·rintro ⟨h1,h2⟩
  exact ⟨(p - x.1).toNat,List.mem_range.2 (by omega),by omega⟩
theorem pgsL_mem {l : List RunM} (h : ∀ x ∈ l,mayM x = true) {p : Int} : p ∈ pgsL l ↔ inR l p = true:=by
 unfold pgsL
 rw [List.mem_flatMap,inR_t]
 constructor
 ·rintro ⟨x,hx,hp⟩
  exact ⟨x,hx,pinR_t.1 ((pgs_mem (h x hx)).1 hp)⟩
 ·rintro ⟨x,hx,hp⟩
  exact ⟨x,hx,(pgs_mem (h x hx)).2 (pinR_t.2 hp)⟩
def upto (f : Nat → Bool) (n : Nat) : List Int:=((List.range n).filter f).map fun (k : Nat) => (k : Int)
def IsEnd (q : Int → Bool) (e : Int) : Prop:=(∀ p,q p = true → p < e) ∧ ((e = 0 ∧ ∀ p,q p = false) ∨ (0 < e ∧ q (e - 1) = true))
theorem IsEnd.ext {q r : Int → Bool} {e : Int} (h : IsEnd q e) (hq : ∀ p,q p = r p) : IsEnd r e:=by
 obtain rfl : q = r:=funext hq
 exact h
theorem IsEnd.or {q r : Int → Bool} {e e' : Int} (h : IsEnd q e) (h' : IsEnd r e') : IsEnd (fun p => q p || r p) (mxM e e'):=by
 obtain ⟨h1,h2⟩:=h
 obtain ⟨k1,k2⟩:=h'
 have he : 0 ≤ e:=by rcases h2 with ⟨h,_⟩ | ⟨h,_⟩ <;> omega
 have he' : 0 ≤ e':=by rcases k2 with ⟨h,_⟩ | ⟨h,_⟩ <;> omega
 have hm : e ≤ mxM e e' ∧ e' ≤ mxM e e' ∧ (mxM e e' = e ∨ mxM e e' = e'):=by unfold mxM; split <;> omega
 refine ⟨fun p hp => ?_,?_⟩
 ·simp only [Bool.or_eq_true] at hp
  rcases hp with hp | hp
  ·have:=h1 p hp
   omega
  ·have:=k1 p hp
   omega
 ·rcases Int.lt_or_le 0 (mxM e e') with hp | hp
  ·right
   refine ⟨hp,?_⟩
   simp only [Bool.or_eq_true]
   rcases hm.2.2 with e0 | e0
   ·rw [e0] at hp ⊢
    rcases h2 with ⟨h2,h3⟩ | ⟨h2,h3⟩
    ·omega
    ·exact .inl h3
   ·rw [e0] at hp ⊢
    rcases k2 with ⟨h2,h3⟩ | ⟨h2,h3⟩
    ·omega
    ·exact .inr h3
  ·left
   refine ⟨by omega,fun p => ?_⟩
   simp only [Bool.or_eq_false_iff]
   constructor
   ·rcases h2 with ⟨h2,h3⟩ | ⟨h2,h3⟩
    ·exact h3 p
    ·omega
   ·rcases k2 with ⟨h2,h3⟩ | ⟨h2,h3⟩
    ·exact h3 p
    ·omega
theorem endsM_is (l : List RunM) : IsEnd (inR (cleanM l)) (endsM l):=by
 have hr:=clean_right l
 unfold endsM
 generalize cleanM l = c at *
 rcases List.eq_nil_or_concat c with rfl | ⟨b,y,rfl⟩
 ·exact ⟨fun p hp => (by rw [inR_nil] at hp; cases hp),.inl ⟨rfl,inR_nil⟩⟩
 ·rw [List.concat_eq_append] at *
  have e1 : (b ++ [y]).isEmpty = false:=by simp
  have e2 : lastM (b ++ [y]) = y:=by simp [lastM]
  rw [e1,e2]
  simp only [Bool.false_eq_true,if_false]
  obtain ⟨r1,r2,r3,r4⟩:=rgt_snoc.1 hr
  have my:=mayM_iff.1 r2
  have ey : endM y = y.1 + y.2:=rfl
  refine ⟨fun p hp => ?_,.inr ⟨by omega,inR_t.2 ⟨y,by simp,by omega,by omega⟩⟩⟩
  obtain ⟨z,hz,h1,h2⟩:=inR_t.1 hp
  rcases List.mem_append.1 hz with hz | hz
  ·have:=r4 z hz
   omega
  ·simp at hz
   rw [hz] at h2
   exact h2
theorem idx_find (q : RunM → Bool) (l : List RunM) : (if 0 ≤ idxM q 0 l then l[(idxM q 0 l).toNat]? else none) = l.find? q:=by
 have h1:=(idxM_neg q l 0).1
 by_cases h : 0 ≤ idxM q 0 l
 ·rw [if_pos h]
  obtain ⟨xa,b,bs,e,h2,h3,h4⟩:=idx_split h
  rw [h4,e,List.find?_append]
  have : xa.find? q = none:=by rw [List.find?_eq_none]; exact fun x hx => by rw [h3 x hx]; simp
  rw [this]
  simp [h2]
 ·rw [if_neg h]
  rw [decide_eq_false h] at h1
  symm
  rw [List.find?_eq_none]
  intro x hx hq
  have : l.any q = true:=List.any_eq_true.2 ⟨x,hx,hq⟩
  rw [← h1] at this
  cases this
theorem tookM_none {l : List RunM} {n : Int} (h : (cleanM l).find? (takeB n) = none) : tookM l n = (0,cleanM l,false):=by
 unfold tookM fstI
 rw [idx_find,h]
theorem tookM_some {l : List RunM} {n : Int} {y : RunM} (h : (cleanM l).find? (takeB n) = some y) :
  tookM l n = (y.1,dropM (cleanM l) (y.1,n),true) ∧ rightM (dropM (cleanM l) (y.1,n)) = true ∧ (∀ p,inR (dropM (cleanM l) (y.1,n)) p = (inR (cleanM l) p && !(decide (y.1 ≤ p) && decide (p < y.1 + n)))) ∧ y ∈ cleanM l ∧ mayM y = true ∧ 1 ≤ n ∧ n ≤ y.2:=by
 have hy:=List.mem_of_find?_eq_some h
 have hq:=List.find?_some h
 unfold takeB at hq
 rw [Bool.and_eq_true,decide_eq_true_eq,decide_eq_true_eq] at hq
 have hm:=clean_may l y hy
 have m:=mayM_iff.1 hm
 have hx : mayM (y.1,n) = true:=mayM_iff.2 ⟨m.1,hq.1,m.2.2.1,by simp only; omega⟩
 have hb : dropB (cleanM l) (y.1,n) = true:=dropB_iff.2 ⟨hx,fun p hp => by
  rw [pinR_t] at hp
  unfold endM at hp
  simp only at hp
  rw [clean_clean]
  exact inR_t.2 ⟨y,hy,hp.1,by unfold endM; omega⟩⟩
 have hd:=dropM_ok (cleanM l) (y.1,n)
 refine ⟨?_,hd.1,fun p => ?_,hy,hm,hq.1,hq.2⟩
 ·unfold tookM fstI
  rw [idx_find,h]
  simp only [hb]
 ·rw [hd.2,clean_clean,hb,Bool.true_and]
  rfl
end Go.VI
namespace Go.VI
def KF (ft : FT) (f : AV) (args : List AV) (H : Heap) (Q : AV → Heap → Prop) : Prop:=KW ft f args H Q
theorem KF_congr {ft : FT} {f f' : AV} {args args' : List AV} {H H' : Heap} {K : AV → Heap → Prop} (h1 : f = f') (h2 : args = args') (h3 : H = H') : KF ft f args H K = KF ft f' args' H' K:=by rw [h1,h2,h3]
end Go.VI
namespace Go.VI
attribute [local congr] AW_congr OW_congr DW_congr NW_congr VW_congr GW_congr PW_congr KW_congr ite_congr' GV_congr CV_congr KF_congr
def tab (n : Nat) (f : Nat → Bool) : List Bool:=(List.range n).map f
theorem tab_len (n : Nat) (f : Nat → Bool) : (tab n f).length = n:=by simp [tab]
theorem tab_at {n : Nat} {f : Nat → Bool} {p : Nat} (h : p < n) : (tab n f)[p]? = some (f p):=by simp [tab,h]
theorem tab_getD {n : Nat} {f : Nat → Bool} {p : Nat} (h : p < n) : (tab n f).getD p false = f p:=by rw [List.getD_eq_getElem?_getD,tab_at h]; rfl
def tabC (n : Nat) (f : Nat → Bool) : List (List AV):=(tab n f).map bitC
theorem tabC_len (n : Nat) (f : Nat → Bool) : (tabC n f).length = n:=by simp [tabC,tab_len]
theorem runs_tab {n : Nat} (hn : n ≤ 32768) {f : Nat → Bool} {c : List RunM} (hc : rightM c = true) (hlt : ∀ p,inR c p = true → p < n) (h : ∀ p : Nat,p < n → f p = inR c (p : Int)) : runsM (tab n f) = c:=by
 refine runsM_eq (by rw [tab_len]; exact hn) hc fun p => ?_
 refine beq_iff' ?_
 rw [Bool.and_eq_true,decide_eq_true_eq]
 constructor
 ·intro hp
  have h1:=in_pos (rgt_may hc) hp
  have h2:=hlt p hp
  refine ⟨h1.1,?_⟩
  rw [tab_getD (by omega),h _ (by omega),← hp]
  congr 1
  omega
 ·rintro ⟨h0,h1⟩
  rcases Nat.lt_or_ge p.toNat n with h2 | h2
  ·rw [tab_getD h2,h _ h2] at h1
   rw [← h1]
   congr 1
   omega
  ·rw [List.getD_eq_getElem?_getD,List.getElem?_eq_none (by rw [tab_len]; exact h2)] at h1
   cases h1
theorem frz_tab {K : Heap} {id n : Nat} {fz : Bool} {f : Nat → Bool} (hg : K.get id = some (.row fz 1 (tabC n f))) (L : List Blk) :
  frzCells (hx K L) [.sl id 0 n] = some ([encT (tab n f)],hx (if fz then K else K.set id (.row true 1 (tabC n f))) L):=by
 have lid:=Heap.get_lt hg
 rw [frzCells_eq,frzL_cons,frz_sl,hx_get_old K L id lid,hg]
 simp only
 rw [if_pos (by rw [tabC_len]; omega),List.drop_zero,List.take_of_length_le (by rw [tabC_len]; omega)]
 cases fz with
 | true => rfl
 | false =>
  simp only [Bool.false_eq_true,if_false,hx_set_old K L _ id lid]
  rfl
end Go.VI
namespace Go.Proofs
open Go.Shelf
def Try.sortRun_ren : Go.Shelf.Ren:=⟨fun | 6 => 159 | 15 => 181 | 14 => 180 | 28 => 198 | 29 => 199 | 20 => 190 | 21 => 191 | 22 => 192 | 23 => 193 | 24 => 194 | 25 => 195 | 26 => 196 | 27 => 197 | 46 => 201 | 47 => 202 | 48 => 203 | 49 => 204 | 50 => 205 | 57 => 206 | n => n,fun | 22 => 68 | 24 => 83 | 25 => 199 | 3 => 3 | 39 => 206 | 0 => 0 | 53 => 232 | 55 => 234 | 4 => 4 | 46 => 226 | 45 => 225 | 50 => 128 | 5 => 5 | 9 => 9 | 66 => 236 | 70 => 240 | 76 => 242 | 77 => 243 | n => n,fun | n => n⟩
theorem Try.sortRun : Go.Proofs.SlLaysF0.n6 Try.prog Try.sortRun_ren:={
 mixed:=by kernel_rfl
 f6:=⟨Try.f159.name,by decide,Try.func159.trans (congrArg some (by kernel_rfl))⟩
 f14:=⟨Try.f180.name,by decide,Try.func180.trans (congrArg some (by kernel_rfl))⟩
 f15:=Try.func181.trans (congrArg some (by kernel_rfl))
 f20:=⟨Try.f190.name,by decide,Try.func190.trans (congrArg some (by kernel_rfl))⟩
 f21:=⟨Try.f191.name,by decide,Try.func191.trans (congrArg some (by kernel_rfl))⟩
 f22:=⟨Try.f192.name,by decide,Try.func192.trans (congrArg some (by kernel_rfl))⟩
 f23:=⟨Try.f193.name,by decide,Try.func193.trans (congrArg some (by kernel_rfl))⟩
 f24:=⟨Try.f194.name,by decide,Try.func194.trans (congrArg some (by kernel_rfl))⟩
 f25:=⟨Try.f195.name,by decide,Try.func195.trans (congrArg some (by kernel_rfl))⟩
 f26:=⟨Try.f196.name,by decide,Try.func196.trans (congrArg some (by kernel_rfl))⟩
 f27:=⟨Try.f197.name,by decide,Try.func197.trans (congrArg some (by kernel_rfl))⟩
 f28:=Try.func198.trans (congrArg some (by kernel_rfl))
 f29:=Try.func199.trans (congrArg some (by kernel_rfl))
 f46:=⟨Try.f201.name,by decide,Try.func201.trans (congrArg some (by kernel_rfl))⟩
 f47:=Try.func202.trans (congrArg some (by kernel_rfl))
 f48:=Try.func203.trans (congrArg some (by kernel_rfl))
 f49:=⟨Try.f204.name,by decide,Try.func204.trans (congrArg some (by kernel_rfl))⟩
 f50:=⟨Try.f205.name,by decide,Try.func205.trans (congrArg some (by kernel_rfl))⟩
 f57:=⟨Try.f206.name,by decide,Try.func206.trans (congrArg some (by kernel_rfl))⟩
 t0:=Try.underlying0
 a0:=Try.isAgg0
 z0:=Try.sizeOf0
 v0:=Try.zeroValue0
 t3:=Try.underlying3
 a3:=Try.isAgg3
 z3:=Try.sizeOf3
 v3:=Try.zeroValue3
 t4:=Try.underlying4
 a4:=Try.isAgg4
 z4:=Try.sizeOf4
 v4:=Try.zeroValue4
 t5:=Try.underlying5
 a5:=Try.isAgg5
 z5:=Try.sizeOf5
 v5:=Try.zeroValue5
 t9:=Try.underlying9
 a9:=Try.isAgg9
 z9:=Try.sizeOf9
 v9:=Try.zeroValue9
 t22:=Try.underlying68
 a22:=Try.isAgg68
 z22:=Try.sizeOf68
 v22:=Try.zeroValue68
 t25:=Try.underlying199
 a25:=Try.isAgg199
 z25:=Try.sizeOf199
 v25:=Try.zeroValue199
 t39:=Try.underlying206
 a39:=Try.isAgg206
 z39:=Try.sizeOf206
 v39:=Try.zeroValue206
 t45:=Try.underlying225
 a45:=Try.isAgg225
 z45:=Try.sizeOf225
 v45:=Try.zeroValue225
 t46:=Try.underlying226
 a46:=Try.isAgg226
 z46:=Try.sizeOf226
 v46:=Try.zeroValue226
 t50:=Try.underlying128
 a50:=Try.isAgg128
 z50:=Try.sizeOf128
 v50:=Try.zeroValue128
 t53:=Try.underlying232
 a53:=Try.isAgg232
 z53:=Try.sizeOf232
 v53:=Try.zeroValue232
 t55:=Try.underlying234
 a55:=Try.isAgg234
 z55:=Try.sizeOf234
 v55:=Try.zeroValue234
 t66:=Try.underlying236
 a66:=Try.isAgg236
 z66:=Try.sizeOf236
 v66:=Try.zeroValue236
 t70:=Try.underlying240
 a70:=Try.isAgg240
 z70:=Try.sizeOf240
 v70:=Try.zeroValue240
 t76:=Try.underlying242
 a76:=Try.isAgg242
 z76:=Try.sizeOf242
 v76:=Try.zeroValue242
 t77:=Try.underlying243
 a77:=Try.isAgg243
 z77:=Try.sizeOf243
 v77:=Try.zeroValue243 }
end Go.Proofs
namespace Go.VI
open Go.Sort Go.Proofs
def srE (x : SR) : List Value:=[.int .i64 x.1.1,.int .i64 x.1.2]
theorem srE_len (x : SR) : (srE x).length = 2:=rfl
theorem srE_one (x : SR) : ∀ v ∈ srE x,v.oneCell' = true:=by
 intro v hv
 simp [srE] at hv
 rcases hv with rfl | rfl <;> rfl
theorem srE_get (x : SR) (j : Nat) (h : j < 2) : (srE x)[j]! = (srE x).getD j undef:=by
 match j,h with
 | 0,_ => rfl
 | 1,_ => rfl
theorem srC_get (x : SR) (j : Nat) (c : AV) (h : (srC x)[j]? = some c) : j < 2 ∧ c = .sc ((srE x).getD j undef) ∧ isSc ((srE x).getD j undef) = true:=by
 match j with
 | 0 => simp [srC] at h; exact ⟨by omega,h.symm,rfl⟩
 | 1 => simp [srC] at h; exact ⟨by omega,h.symm,rfl⟩
 | j + 2 => simp [srC] at h
theorem putCells_get {β : Type} [Inhabited β] (enc : β → Value) (off : Nat) (d : Array β) (c : Array Value) (k : Nat) (hk : k < c.size) : (putCells enc off d c).getD k undef = if off ≤ k ∧ k < off + d.size then enc d[k - off]! else c.getD k undef:=by
 unfold putCells
 rw [Array.getD_eq_getD_getElem?,Array.getElem?_mapIdx,Array.getElem?_eq_getElem hk,Option.map_some,Option.getD_some,Array.getD_eq_getD_getElem?,Array.getElem?_eq_getElem hk,Option.getD_some]
theorem heap_map_ne (w : World) (blk : Nat) (f : Array Value → Array Value) (b : Nat) (h : b ≠ blk) : (mapBlock w blk f).heap[b]? = w.heap[b]?:=by
 simp only [mapBlock,Array.getElem?_modify]
 rw [if_neg (Ne.symm h)]
theorem heap_map_at (w : World) (blk : Nat) (f : Array Value → Array Value) (c : Array Value) (t : TypeId) (fr : Nat × Nat) (h : w.heap[blk]? = some (.cells c t fr)) : (mapBlock w blk f).heap[blk]? = some (.cells (f c) t fr):=by
 simp only [mapBlock,Array.getElem?_modify]
 rw [if_true,h]
 rfl
section
variable {P : Program}
theorem sorted_inv {m : Mp} {F : Fz} {H : Heap} {w : World} (hI : Inv P m F H w) {id : Nat} {mb : MB} (hm : m id = some mb) {l l' : List SR} (hg : H.get id = some (.row false 2 (l.map srC))) (hl : l'.length = l.length) (n : Nat) (os : Array Obj) :
  Inv P m F (H.set id (.row false 2 (l'.map srC))) (sortWorldK srE 2 w mb.cb mb.base n l'.toArray os) ∧ Ext m F w m F (sortWorldK srE 2 w mb.cb mb.base n l'.toArray os):=by
 obtain ⟨vs,hcb,hsz,hcn,hfit,hrl,hrc,hF,_,hfull⟩:=hI.blk id mb _ hm hg
 obtain ⟨⟨rsF,f1,f2,f3⟩,hum⟩:=hfull rfl
 have hF:=hF rfl
 have hblk:=hcb.lt
 rw [List.length_map] at hcn f2
 obtain ⟨t,fr,hb0,hfr⟩:=hcb
 let fl:=flatK srE 2 l'.toArray
 have hfls : fl.size = l.length * 2:=by simp [fl,hl]
 let vs':=putCells _root_.id mb.base fl vs
 have hvs' : vs'.size = vs.size:=by simp [vs',putCells]
 generalize hw' : sortWorldK srE 2 w mb.cb mb.base n l'.toArray os = w'
 have hne : ∀ b,b < w.heap.size → b ≠ mb.cb → w'.heap[b]? = w.heap[b]?:=fun b h1 h2 => by
  rw [← hw']
  unfold sortWorldK putRowK putRow
  rw [heap_grow_old _ _ (by simp [mapBlock]; exact h1),heap_map_ne _ _ _ _ h2]
  rfl
 have hat : w'.heap[mb.cb]? = some (.cells vs' t fr):=by
  rw [← hw']
  unfold sortWorldK putRowK putRow
  rw [heap_grow_old _ _ (by simp [mapBlock]; exact hblk)]
  exact heap_map_at (Go.Sort.ahead w n) _ _ _ _ _ hb0
 have hsize : w.heap.size ≤ w'.heap.size:=by
  rw [← hw']
  exact size_sortWorldK_c srE 2 w mb.cb mb.base n l'.toArray os
 have hcb' : CB w' mb.cb vs':=⟨t,fr,hat,by rw [hvs']; exact hfr⟩
 have hl2 : l.length * 2 ≤ mb.cn * 2:=Nat.mul_le_mul_right _ hcn
 have hcell : ∀ (i : Nat) (x : SR) (j : Nat) (c : AV),l'[i]? = some x → (srC x)[j]? = some c → c.one = true ∧ VF F c (vs'.getD (mb.base + i * 2 + j) undef):=fun i x j c hx hc => by
  obtain ⟨hj,rfl,hs⟩:=srC_get x j c hc
  have hi:=(List.getElem?_eq_some_iff.1 hx).1
  refine ⟨rfl,?_⟩
  have hk : mb.base + i * 2 + j < vs.size:=by omega
  have : vs'.getD (mb.base + i * 2 + j) undef = (srE x).getD j undef:=by
   show (putCells _root_.id mb.base fl vs).getD _ undef = _
   rw [putCells_get _ _ _ _ _ hk,if_pos (by omega),show mb.base + i * 2 + j - mb.base = i * 2 + j by omega]
   show (flatK srE 2 l'.toArray)[i * 2 + j]! = _
   rw [get_flatK _ _ _ _ (by simp; omega),show (i * 2 + j) / 2 = i by omega,show (i * 2 + j) % 2 = j by omega]
   have : l'.toArray[i]! = x:=by
    rw [getElem!_pos _ i (by simpa using hi)]
    have:=List.getElem?_eq_getElem hi
    rw [hx] at this
    simpa using (Option.some.inj this).symm
   rw [this,srE_get _ _ hj]
  rw [this]
  exact .sc hs
 have hwell : w'.tape = w.tape ∧ w'.os = w.os ∧ w'.output = w.output:=by
  rw [← hw']
  exact ⟨rfl,rfl,rfl⟩
 refine ⟨hI.next (MLe.refl m) (FLe.refl F) (fun b o v hv => ?_) (fun j mj hj => ?_) (fun j mj B hj hB => ?_) (fun i j mi mj hi hj li lj e => hI.inj i j mi mj hi hj (live_set li (.inl (live_of hg (by simp)))) (live_set lj (.inl (live_of hg (by simp)))) e),?_⟩
 ·have : b ≠ mb.cb:=fun e => by rw [e,hF o] at hv; cases hv
  rw [cell_of_heap (hne b (hI.fz_lt hv) this)]
  exact hI.fz b o v hv
 ·have:=hI.lt j mj hj
  simp only [Heap.next_set]
  exact ⟨this.1,by omega⟩
 ·by_cases e : j = id
  ·subst e
   rw [Heap.get_set_self _ (hI.lt _ _ hm).1] at hB
   cases hB
   rw [hm] at hj
   cases hj
   refine .inr ⟨vs',hcb',hsz,by simpa [hl] using hcn,by rw [hvs']; exact hfit,fun i r hr => ?_,fun i r j c hr hc => ?_,fun _ => hF,by simp,fun _ => ⟨⟨l'.map srC ++ rsF.drop l.length,?_,?_,?_,?_⟩,fun _ => ?_⟩⟩
   ·rw [List.getElem?_map,Option.map_eq_some_iff] at hr
    obtain ⟨x,_,rfl⟩:=hr
    rfl
   ·rw [List.getElem?_map,Option.map_eq_some_iff] at hr
    obtain ⟨x,hx,rfl⟩:=hr
    exact hcell i x j c hx hc
   ·simp; omega
   ·rw [List.take_left]
   ·intro i r hr
    rw [hsz]
    rcases Nat.lt_or_ge i l.length with h1 | h1
    ·rw [List.getElem?_append_left (by simpa [hl] using h1),List.getElem?_map,Option.map_eq_some_iff] at hr
     obtain ⟨x,_,rfl⟩:=hr
     rfl
    ·rw [List.getElem?_append_right (by simpa [hl] using h1),List.getElem?_drop] at hr
     rw [← hsz]
     exact f3.len _ r hr
   ·intro i r j c hr hc
    rw [hsz]
    rcases Nat.lt_or_ge i l.length with h1 | h1
    ·rw [List.getElem?_append_left (by simpa [hl] using h1),List.getElem?_map,Option.map_eq_some_iff] at hr
     obtain ⟨x,hx,rfl⟩:=hr
     exact hcell i x j c hx hc
    ·rw [List.getElem?_append_right (by simpa [hl] using h1),List.getElem?_drop] at hr
     rw [List.length_map,hl,show l.length + (i - l.length) = i by omega] at hr
     have:=f3.cell _ r j c hr hc
     rw [hsz] at this
     have hi : i < mb.cn:=by rw [← f1]; exact (List.getElem?_eq_some_iff.1 hr).1
     have hj : j < 2:=by rw [← hsz,← f3.len i r hr]; exact (List.getElem?_eq_some_iff.1 hc).1
     have e : vs'.getD (mb.base + i * 2 + j) undef = vs.getD (mb.base + i * 2 + j) undef:=by
      show (putCells _ mb.base fl vs).getD _ undef = _
      rw [putCells_get _ _ _ _ _ (by omega),if_neg (by omega)]
     rw [e]
     exact this
   ·obtain ⟨us,t',hu⟩:=hum (by simp)
    rw [hb0] at hu
    injection hu with hu
    injection hu with h1 h2 h3
    exact ⟨vs',t,by rw [hat,h3]⟩
  ·rw [Heap.get_set_ne _ e] at hB
   by_cases hd : B = .dead
   ·subst hd
    exact .inr trivial
   ·exact .inl ⟨hj,hB,hne _ (hI.lt _ _ hj).2 (cb_other hI hm hj (live_of hg (by simp)) (live_of hB hd) e),fun _ _ hv => hv⟩
 ·exact ⟨MLe.refl m,FLe.refl F,hsize,hwell.1,hwell.2.1,hwell.2.2,fun b h1 h2 => hne b h1 (fun e => h2 id mb hm e.symm),fun _ _ h => .inl h,fun _ _ _ h => .inl h⟩
theorem sorted_holds {m : Mp} {F : Fz} {H : Heap} {w : World} (hI : Inv P m F H w) {id : Nat} {mb : MB} (hm : m id = some mb) {l : List SR} (hg : H.get id = some (.row false 2 (l.map srC))) : HoldsK srE 2 w mb.cb mb.base l.toArray:=by
 obtain ⟨vs,hcb,hsz,hcn,hfit,hrl,hrc,_⟩:=hI.blk id mb _ hm hg
 rw [List.length_map] at hcn
 have hl2 : l.length * 2 ≤ mb.cn * 2:=Nat.mul_le_mul_right _ hcn
 intro j hj
 have hj' : j < l.length * 2:=by simpa using hj
 have hlt : mb.base + j < vs.size:=by omega
 refine ⟨?_,hcb.frozen _ hlt⟩
 rw [hcb.cell _ hlt,get_flatK _ _ _ _ (by simpa using hj')]
 have hi : j / 2 < l.length:=by omega
 have hx : (l.map srC)[j / 2]? = some (srC l[j / 2]):=by rw [List.getElem?_map,List.getElem?_eq_getElem hi]; rfl
 have e1 : l.toArray[j / 2]! = l[j / 2]:=by
  rw [getElem!_pos _ _ (by simpa using hi)]
  simp
 rw [e1]
 have hc : (srC l[j / 2])[j % 2]? = some (.sc ((srE l[j / 2]).getD (j % 2) undef)):=by
  have : j % 2 = 0 ∨ j % 2 = 1:=by omega
  rcases this with h | h <;> rw [h] <;> rfl
 obtain ⟨_,h2⟩:=hrc _ _ _ _ hx hc
 rw [show mb.base + j / 2 * 2 + j % 2 = mb.base + j by omega] at h2
 have h3 : vs.getD (mb.base + j) undef = (srE l[j / 2]).getD (j % 2) undef:=by
  generalize vs.getD (mb.base + j) undef = a at h2 ⊢
  generalize (srE l[j / 2]).getD (j % 2) undef = b at h2 ⊢
  exact (vr_sc (m:=m) (.fz h2)).1
 rw [h3,srE_get _ _ (by omega)]
 rfl
theorem sortP_ok {ρ : Go.Shelf.Ren} (L : SlLaysF0.n6 P ρ) {k g : FuncId} (hk : ρ.f 6 = k) (aE : ∀ w,(isAgg (ρ.t 24)).run P w = .ok true w) (zE : ∀ w,(Go.sizeOf (ρ.t 24)).run P w = .ok 2 w)
  (ek : ∀ args w,(callFunc k args).run P w = .ok (.enter k args) w) (eg : ∀ args w,(callFunc g args).run P w = .ok (.enter g args) w)
  (hcl : ∀ (x y : SR) (W : World),Calls P g #[.agg (srE x).toArray,.agg (srE y).toArray] W fun e w' => e = .returned (.int .i64 (srCf x y)) ∧ ∃ q os',w' = grow (W.drewN q) os')
  {p : List AV → Option AV} (hp : PPrimOk P k p) (h0 : p [.lst [],.fn (.func g) [] []] = some (.tup [])) : PrimOk P k (sortP g):=by
 intro args H H' r h m F w vs hI hv
 have hfn : ∀ {n : Nat} {a : AV},args = [a,.fn (.func n) [] []] → ∃ v,vs = #[v,.func (.func n) #[] #[]] ∧ VR m F a v:=by
  intro n a e
  subst e
  have hl:=hv.len
  obtain ⟨vf,vc,h1,h2,h3,_⟩:=vr_fn (hv.val 1 (.fn (.func n) [] []) rfl)
  obtain rfl : vf = #[]:=Array.eq_empty_of_size_eq_zero h2
  obtain rfl : vc = #[]:=Array.eq_empty_of_size_eq_zero h3
  refine ⟨vs.getD 0 undef,?_,hv.val 0 a rfl⟩
  rw [← h1]
  refine Array.ext (by simpa using hl) fun i h1 h2 => ?_
  simp at hl
  match i with
  | 0 => simp [Array.getD_eq_getD_getElem?,h1]
  | 1 => simp [Array.getD_eq_getD_getElem?,h1]
  | i + 2 => omega
 have emp : ∀ {a : AV},args = [a,.fn (.func g) [] []] → (∀ v,VR m F a v → ∃ A c,v = .slice A 0 c) → r = .tup [] → H' = H →
   ((callFunc k vs).run P w = .ok (.enter k vs) w ∧ Calls P k vs w (CallPost P m F H w r H')) ∨ (∃ u w',(callFunc k vs).run P w = .ok (.value u) w' ∧ CallPost P m F H w r H' (.returned u) w'):=by
  intro a e ha hr hH
  subst hr hH
  obtain ⟨v,rfl,hva⟩:=hfn e
  obtain ⟨A,c,rfl⟩:=ha v hva
  refine hp _ _ h0 m F H' w _ hI rfl fun i c' hc => ?_
  match i,hc with
  | 0,hc => cases hc; exact vf_nolst F A c
  | 1,hc => cases hc; exact .fn rfl rfl (by simp) (by simp)
 unfold sortP at h
 split at h
 ·rename_i id len n
  split at h
  rotate_left
  ·cases h
  rename_i hn
  subst hn
  split at h
  rotate_left
  ·cases h
  rename_i rows hg
  split at h
  rotate_left
  ·cases h
  rename_i hlen
  obtain ⟨rfl,hle⟩:=hlen
  rw [Option.map_eq_some_iff] at h
  obtain ⟨l,hl,h⟩:=h
  cases h
  obtain rfl:=srsOf_some hl
  obtain ⟨v,rfl,hva⟩:=hfn rfl
  obtain ⟨mb,cap,hm,rfl,hc1,hc2⟩:=vr_sl hva
  have hb:=(hI.lt id mb hm).2
  have hsz : l.toArray.size < 4611686018427387904:=by simp at hle ⊢; omega
  have hcon:=AnyQ.slices_SortFunc_eq L 2 aE zE srE srE_len srE_one srCf srSWO n #[] mb.cb mb.base cap l.toArray w eg (fun m os dk hs x y => by simpa using hcl x y _) (sorted_holds hI hm hg) hb hsz
  rw [hk] at hcon
  refine .inl ⟨ek _ _,?_⟩
  have e1 : (.slice (some ⟨mb.cb,mb.base + 0 * mb.sz,none⟩) (l.map srC).length cap : Value) = .slice (some ⟨mb.cb,mb.base,none⟩) l.toArray.size cap:=by simp
  rw [e1]
  refine hcon.mono fun en w' ⟨he,n,os,hw⟩ => ?_
  have e2 : pdq (ltOf srCf) l.toArray 0 l.toArray.size (Lib.bitLen l.toArray.size) true true = (sortL l).toArray:=by
   unfold sortL
   simp
   rfl
  rw [e2] at hw
  subst hw
  obtain ⟨q1,q2⟩:=sorted_inv hI hm hg (sortL_len l) n os
  exact ⟨_,m,F,he,.fz (.tup (vs:=#[]) rfl (by simp)),q1,q2,⟨fun _ _ h => .inl h,by simp⟩⟩
 ·rename_i n
  split at h
  ·rename_i hn
   subst hn
   cases h
   exact emp rfl (fun v hv => ⟨none,0,(vr_sc hv).1⟩) rfl rfl
  ·cases h
 ·rename_i n
  split at h
  ·rename_i hn
   subst hn
   cases h
   exact emp rfl (fun v hv => by obtain ⟨A,h⟩:=vr_emp hv; exact ⟨A,0,h⟩) rfl rfl
  ·cases h
 ·cases h
end
end Go.VI
namespace Go.VI
def frzW (W : World) : Fz:=fun b o => W.cell? ⟨b,o,none⟩
def CVF (F : Fz) (xs : List AV) (cs : List Value) : Prop:=xs.length = cs.length ∧ ∀ i c,xs[i]? = some c → c.one = true ∧ VF F c (cs.getD i undef)
def RD (P : Program) (W : World) (t : TypeId) (E : List AV → Prop) : Prop :=
 ∀ (H : Type) (enc : TypeId × Value → H) (base : Nat) (spare : Nat → Bool) (held : Bool) (fuel : Nat) (cs : List Value) (x : DataW H × List MemPlace),
  DataW.trod enc P W base spare held fuel t cs = some x → (∀ n ∈ x.1.weights P t,n ≤ reachBytes) → ∃ xs,E xs ∧ CVF (frzW W) xs cs
theorem CVF.one {F : Fz} {a : AV} {v : Value} (h1 : a.one = true) (h : VF F a v) : CVF F [a] [v]:=⟨rfl,fun i c hc => by
 cases i with
 | zero => cases hc; exact ⟨h1,h⟩
 | succ i => simp at hc⟩
theorem CVF.cons {F : Fz} {a : AV} {v : Value} {l : List AV} {vs : List Value} (h : CVF F [a] [v]) (ht : CVF F l vs) : CVF F (a :: l) (v :: vs):=⟨by simp [ht.1],fun i c hc => by
 cases i with
 | zero => exact h.2 0 c hc
 | succ i => exact ht.2 i c hc⟩
theorem rd_int {P : Program} {W : World} {t : TypeId} {k : IntKind} (ht : P.underlying t = some (.int k)) : RD P W t fun xs => ∃ n,xs = [.sc (.int k n)] ∧ (Lit.int k n).wf = true:=fun H enc base spare held fuel cs x h _ => by
 obtain ⟨n,rfl,_,hw⟩:=DataW.trod_int ht h
 exact ⟨_,⟨n,rfl,hw⟩,.one rfl (.sc rfl)⟩
theorem cell_flat {W : World} {a : Addr} {v : Value} (h : W.cell? a = some v) : a.spot = none:=by
 cases hs : a.spot with
 | none => rfl
 | some s =>
  simp only [World.cell?] at h
  split at h
  ·simp [hs] at h
  ·cases h
theorem add_flat (b o i : Nat) : (Addr.mk b o none).add i = ⟨b,o + i,none⟩:=by
 unfold Addr.add
 split
 ·rename_i h; subst h; rfl
 ·rfl
theorem weights_all {H : Type} {P : Program} {e : TypeId} : ∀ {l : List (DataW H)} {d : DataW H},d ∈ l → ∀ n ∈ d.weights P e,n ∈ DataW.weightsAll P e l
 | x :: l,d,hd,n,hn => by
  simp only [DataW.weightsAll,List.mem_append]
  rcases List.mem_cons.1 hd with rfl | hd
  ·exact .inl hn
  ·exact .inr (weights_all hd n hn)
theorem rd_slice {P : Program} {W : World} {t e : TypeId} {E : List AV → Prop} {sz B : Nat} (ht : P.underlying t = some (.slice e)) (hc : P.cellsOf e = sz) (h0 : 0 < sz) (hB : P.bytesOf e = B) (he : RD P W e E) :
  RD P W t fun xs => ∃ rows,xs = [.lst rows] ∧ (∀ r ∈ rows,E r ∧ r.length = sz) ∧ rows.length * B ≤ reachBytes:=fun H enc base spare held fuel cs x h hw => by
 rcases DataW.trod_slice ht h with ⟨rfl,rfl⟩ | ⟨a,len,cap,elems,rest,n,rfl,rfl,rfl,hb,hl,hm,hlen,hel,_,_⟩
 ·exact ⟨_,⟨[],rfl,by simp,by simp⟩,.one rfl (.lst (sz:=0) (b:=0) (o:=0) (fun _ _ => undef) (Nat.le_refl _) (fun h => absurd rfl h) (by simp) (by simp) (by simp) (by simp))⟩
 ·rw [hc] at hel
  have hw1 : (len + rest.length) * B ≤ reachBytes:=by
   have:=hw ((elems.length + rest.length) * P.bytesOf e) (by simp [DataW.weights,ht])
   rwa [hB,hlen] at this
  have each : ∀ i : Nat,∃ r : List AV,i < len → ∃ cs,W.cells? base (a.add (i * sz)) sz = some cs ∧ E r ∧ CVF (frzW W) r cs:=fun i => by
   by_cases hi : i < len
   ·have hy:=hel i hi
    have hi' : i < elems.length:=by omega
    rw [List.getElem?_eq_getElem hi',Option.bind_eq_some_iff] at hy
    obtain ⟨cs,hcs,hy⟩:=hy
    obtain ⟨r,hr,hv⟩:=he H enc base spare held n cs _ hy fun k hk => hw k (by
     simp only [DataW.weights,ht,List.mem_cons,List.mem_append]
     exact .inr (.inl (weights_all (List.mem_map.2 ⟨elems[i],List.getElem_mem hi',rfl⟩) k hk)))
    exact ⟨r,fun _ => ⟨cs,hcs,hr,hv⟩⟩
   ·exact ⟨[],fun h => absurd h hi⟩
  obtain ⟨f,hf⟩:=Classical.skolem.1 each
  have hrows : ∀ i r,((List.range len).map f)[i]? = some r → i < len ∧ r = f i:=fun i r hr => by
   rw [List.getElem?_map,Option.map_eq_some_iff] at hr
   obtain ⟨j,hj,rfl⟩:=hr
   obtain ⟨h1,h2⟩:=List.getElem?_eq_some_iff.1 hj
   rw [List.getElem_range] at h2
   rw [List.length_range] at h1
   exact ⟨h1,by rw [h2]⟩
  have hlr : ∀ i,i < len → (f i).length = sz:=fun i hi => by
   obtain ⟨cs,h1,_,h2⟩:=hf i hi
   rw [h2.1,(World.cells?_some h1).2.1]
  have cell : ∀ i j,i < len → j < sz → ∃ cs,W.cells? base (a.add (i * sz)) sz = some cs ∧ W.cell? ((a.add (i * sz)).add j) = cs[j]? ∧ ∃ v,cs[j]? = some v:=fun i j hi hj => by
   obtain ⟨cs,h1,_,_⟩:=hf i hi
   obtain ⟨_,h2,h3⟩:=World.cells?_some h1
   exact ⟨cs,h1,h3 j hj,_,List.getElem?_eq_getElem (by omega)⟩
  have hflat : 0 < len → a = ⟨a.block,a.off,none⟩:=fun h => by
   obtain ⟨cs,_,h1,v,h2⟩:=cell 0 0 h h0
   rw [h2] at h1
   have h3 : (a.add (0 * sz)).add 0 = a:=by rw [Nat.zero_mul]; simp [Addr.add]
   rw [h3] at h1
   have:=cell_flat h1
   cases a
   simp only at this
   subst this
   rfl
  have hF : ∀ i j c,i < len → (f i)[j]? = some c → c.one = true ∧ ∃ v,frzW W a.block (a.off + i * sz + j) = some v ∧ VF (frzW W) c v:=fun i j c hi hc => by
   have hj : j < sz:=by rw [← hlr i hi]; exact (List.getElem?_eq_some_iff.1 hc).1
   obtain ⟨cs,h1,h2,v,h3⟩:=cell i j hi hj
   obtain ⟨cs',h1',_,h4⟩:=hf i hi
   rw [h1] at h1'
   cases h1'
   obtain ⟨h5,h6⟩:=h4.2 j c hc
   refine ⟨h5,v,?_,?_⟩
   ·rw [hflat (by omega),add_flat,add_flat,h3] at h2
    exact h2
   ·have : cs.getD j undef = v:=by rw [List.getD_eq_getElem?_getD,h3]; rfl
    rwa [this] at h6
  refine ⟨_,⟨(List.range len).map f,rfl,fun r hr => ?_,?_⟩,.one rfl ?_⟩
  ·obtain ⟨i,hi,rfl⟩:=List.mem_map.1 hr
   have hi:=List.mem_range.1 hi
   obtain ⟨_,_,h1,_⟩:=hf i hi
   exact ⟨h1,hlr i hi⟩
  ·simp only [List.length_map,List.length_range]
   exact Nat.le_trans (Nat.mul_le_mul_right _ (by omega)) hw1
  ·have hll : ((List.range len).map f).length = len:=by simp
   have:=VF.lst (F:=frzW W) (rows:=(List.range len).map f) (A:=some a) (cap:=cap) (sz:=sz) (b:=a.block) (o:=a.off) (fun i j => (frzW W a.block (a.off + i * sz + j)).getD undef)
    (by simpa using hl) (fun h => by rw [← hflat (by
     cases len with
     | zero => simp at h
     | succ => omega)]) (fun i r hr => by obtain ⟨h1,rfl⟩:=hrows i r hr; exact hlr i h1)
    (fun i r j c hr hc => by obtain ⟨h1,rfl⟩:=hrows i r hr; exact (hF i j c h1 hc).1)
    (fun i r j c hr hc => by
     obtain ⟨h1,rfl⟩:=hrows i r hr
     obtain ⟨_,v,h2,_⟩:=hF i j c h1 hc
     rw [h2]; rfl)
    (fun i r j c hr hc => by
     obtain ⟨h1,rfl⟩:=hrows i r hr
     obtain ⟨_,v,h2,h3⟩:=hF i j c h1 hc
     rw [h2]; exact h3)
   rwa [hll] at this
def SE : List (List AV → Prop) → List AV → Prop
 | [],xs => xs = []
 | E :: Es,xs => ∃ a b,xs = a ++ b ∧ E a ∧ SE Es b
def consec (P : Program) : List Field → Nat → Nat → Bool
 | [],off,en => off == en
 | f :: fs,off,en => f.offset == off && consec P fs (off + P.cellsOf f.type) en
theorem consec_le {P : Program} : ∀ {fs : List Field} {off en : Nat},consec P fs off en = true → off ≤ en
 | [],off,en,h => by simp [consec] at h; omega
 | f :: fs,off,en,h => by
  simp only [consec,Bool.and_eq_true] at h
  have:=consec_le h.2
  omega
def RDs (P : Program) (W : World) : List Field → List (List AV → Prop) → Prop
 | [],[] => True
 | f :: fs,E :: Es => RD P W f.type E ∧ RDs P W fs Es
 | _,_ => False
theorem rd_fields {P : Program} {W : World} {H : Type} {enc : TypeId × Value → H} {base : Nat} {spare : Nat → Bool} {held : Bool} {n : Nat} {cs : List Value} : ∀ (fs : List Field) (Es : List (List AV → Prop)) (off : Nat) (xs : List (DataW H × List MemPlace)),
  RDs P W fs Es → consec P fs off cs.length = true → xs.length = fs.length → (∀ (i : Nat) (f : Field),fs[i]? = some f → DataW.trod enc P W base spare held n f.type ((cs.drop f.offset).take (P.cellsOf f.type)) = xs[i]?) →
  (∀ k ∈ DataW.weightsEach P (fs.map (·.type)) (xs.map (·.1)),k ≤ reachBytes) → ∃ xs,SE Es xs ∧ CVF (frzW W) xs (cs.drop off)
 | [],[],off,xs,_,hc,_,_,_ => by
  simp only [consec,beq_iff_eq] at hc
  refine ⟨[],rfl,by simp [hc],fun i c h => by simp at h⟩
 | [],_ :: _,_,_,h,_,_,_,_ => h.elim
 | _ :: _,[],_,_,h,_,_,_,_ => h.elim
 | f :: fs,E :: Es,off,[],_,_,hl,_,_ => by simp at hl
 | f :: fs,E :: Es,off,x :: xs,hr,hc,hl,ht,hw => by
  simp only [consec,Bool.and_eq_true,beq_iff_eq] at hc
  obtain ⟨ho,hc⟩:=hc
  have hle:=consec_le hc
  simp only [List.map_cons,DataW.weightsEach,List.mem_append] at hw
  have h0:=ht 0 f rfl
  rw [ho] at h0
  obtain ⟨a,ha,hva⟩:=hr.1 H enc base spare held n _ x h0 fun k hk => hw k (.inl hk)
  obtain ⟨b,hb,hvb⟩:=rd_fields fs Es (off + P.cellsOf f.type) xs hr.2 hc (by simpa using hl) (fun i g hg => ht (i + 1) g hg) fun k hk => hw k (.inr hk)
  have hla : a.length = P.cellsOf f.type:=by
   rw [hva.1]
   simp
   omega
  refine ⟨a ++ b,⟨a,b,rfl,ha,hb⟩,?_,fun i c h => ?_⟩
  ·rw [List.length_append,hvb.1,hla]
   simp
   omega
  ·by_cases hi : i < a.length
   ·rw [List.getElem?_append_left hi] at h
    obtain ⟨h1,h2⟩:=hva.2 i c h
    refine ⟨h1,?_⟩
    have : ((cs.drop off).take (P.cellsOf f.type)).getD i undef = (cs.drop off).getD i undef:=by
     rw [List.getD_eq_getElem?_getD,List.getD_eq_getElem?_getD,List.getElem?_take_of_lt (by omega)]
    rwa [this] at h2
   ·rw [List.getElem?_append_right (by omega)] at h
    obtain ⟨h1,h2⟩:=hvb.2 _ c h
    refine ⟨h1,?_⟩
    have : (cs.drop (off + P.cellsOf f.type)).getD (i - a.length) undef = (cs.drop off).getD i undef:=by
     rw [List.getD_eq_getElem?_getD,List.getD_eq_getElem?_getD,List.getElem?_drop,List.getElem?_drop]
     congr 2
     omega
    rwa [this] at h2
theorem rd_struct {P : Program} {W : World} {t : TypeId} {fs : Array Field} {Es : List (List AV → Prop)} (ht : P.underlying t = some (.struct fs)) (hc : consec P fs.toList 0 (P.cellsOf t) = true) (hr : RDs P W fs.toList Es) :
  RD P W t (SE Es):=fun H enc base spare held fuel cs x h hw => by
 obtain ⟨xs,n,rfl,rfl,hl,hx,hf⟩:=DataW.trod_struct ht h
 have:=rd_fields (cs:=cs) fs.toList Es 0 xs hr (by rw [hl]; exact hc) (by simpa using hx) (fun i f hi => hf i f (by simpa using hi)) (fun k hk => hw k (by simpa [DataW.weights,ht] using hk))
 simpa using this
end Go.VI
namespace Go.VI
open Go.RowKit
def m0 : Mp:=fun _ => none
theorem inv0 {P : Program} (W : World) : Inv P m0 (frzW W) Heap.empty W :=
 ⟨fun b o v h => h,fun id mb h => absurd h (by simp [m0]),fun id mb B h => absurd h (by simp [m0]),fun id id' mb mb' h => absurd h (by simp [m0])⟩
theorem below_of {F' : Fz} {m' : Mp} {W W' : World} (h : Ext m0 (frzW W) W m' F' W') : Below W.heap.size W W' :=
 ⟨h.os,h.tape,h.out,h.sz,fun k hk => h.blk k hk fun id mb hm => absurd hm (by simp [m0])⟩
theorem law_calls {P : Program} (hP : P.follows .mixedOrders = true) {ft : FT} (hft : FTOk P ft) {k : FuncId} {args : List AV} {vs : Array Value} {W : World} {H' : Heap} (hgo : ∃ p n rs body,ft k = some (.go p n rs body))
  (h : callL ft (.fn (.func k) [] []) args Heap.empty = some (.sc (.bool true),H')) (hv : VRs m0 (frzW W) args vs) :
  Calls P k vs W fun e W' => e = .returned (.bool true) ∧ Below W.heap.size W W':=by
 obtain ⟨n,hn⟩:=callL_some.1 h
 have hn' : callF ft (exec ft n) k args Heap.empty = some (.sc (.bool true),H'):=by simpa [callV] using hn
 refine (callF_sound hP hft n hn' (inv0 W) hv hgo).mono fun e W' he => ?_
 obtain ⟨u,m',F',rfl,hu,_,hx,_⟩:=he
 refine ⟨?_,below_of hx⟩
 cases hu with
 | fz hu => cases hu; rfl
theorem go_ok {P : Program} {k : FuncId} {n : Nat} {rs : List ARes} {body : ACode} (h : compF P k = some (n,rs,body)) (hn : (P.funcs[k]?).all (fun fn => !(fn.name == "runtime.NumGoroutine")) = true) :
  ∃ fn c,P.funcs[k]? = some fn ∧ (fn.name == "runtime.NumGoroutine") = false ∧ fn.body = some c ∧ compC P c = some body ∧ fn.ntmps = n ∧ fn.results.toList.mapM (compRes P) = some rs:=by
 unfold compF at h
 simp only [Option.bind_eq_some_iff,Option.map_eq_some_iff,Prod.mk.injEq] at h
 obtain ⟨fn,h1,b,h2,c,h3,rs',h4,rfl,rfl,rfl⟩:=h
 rw [h1] at hn
 exact ⟨fn,b,h1,by simpa using hn,h2,h3,rfl,h4⟩
end Go.VI
namespace Go.VI
open Go.Sort Go.Proofs Go.Shelf
attribute [local congr] AW_congr OW_congr DW_congr NW_congr VW_congr GW_congr PW_congr KW_congr ite_congr' GV_congr CV_congr
def c180L0 : ACode:=(.block 1 (.seq (.region [⟨(some 21),(.mov (.tmp 2)),none⟩,⟨(some 22),(.mov (.tmp 1)),none⟩,⟨(some 23),(.bin .sub 3 (.tmp 21) (.tmp 22)),none⟩,⟨(some 12),(.mov (.tmp 23)),none⟩] false []) (.seq (.seq (.region [⟨(some 24),(.mov (.tmp 12)),none⟩,⟨(some 25),(.bin .leq 3 (.tmp 24) (.const (.int .i64 12))),none⟩] false []) (.cond (.tmp 25) (.seq (.region [⟨(some 26),(.mov (.tmp 0)),none⟩,⟨(some 27),(.mov (.tmp 1)),none⟩,⟨(some 28),(.mov (.tmp 2)),none⟩,⟨(some 29),(.mov (.tmp 4)),none⟩,⟨(some 30),(.call (.func 190) [(.tmp 26),(.tmp 27),(.tmp 28),(.tmp 29)]),none⟩] false []) .ret) .skip)) (.seq (.seq (.region [⟨(some 31),(.mov (.tmp 3)),none⟩,⟨(some 32),(.bin .eql 3 (.tmp 31) (.const (.int .i64 0))),none⟩] false []) (.cond (.tmp 32) (.seq (.region [⟨(some 33),(.mov (.tmp 0)),none⟩,⟨(some 34),(.mov (.tmp 1)),none⟩,⟨(some 35),(.mov (.tmp 2)),none⟩,⟨(some 36),(.mov (.tmp 4)),none⟩,⟨(some 37),(.call (.func 191) [(.tmp 33),(.tmp 34),(.tmp 35),(.tmp 36)]),none⟩] false []) .ret) .skip)) (.seq (.seq (.region [⟨(some 38),(.mov (.tmp 10)),none⟩,⟨(some 39),(.un .not (.tmp 38)),none⟩] false []) (.cond (.tmp 39) (.seq (.region [⟨(some 40),(.mov (.tmp 0)),none⟩,⟨(some 41),(.mov (.tmp 1)),none⟩,⟨(some 42),(.mov (.tmp 2)),none⟩,⟨(some 43),(.mov (.tmp 4)),none⟩,⟨(some 44),(.call (.func 192) [(.tmp 40),(.tmp 41),(.tmp 42),(.tmp 43)]),none⟩] false []) (.region [⟨(some 45),(.mov (.tmp 3)),none⟩,⟨(some 46),(.bin .sub 3 (.tmp 45) (.const (.int .i64 1))),none⟩,⟨(some 3),(.mov (.tmp 46)),none⟩] false [])) .skip)) (.seq (.region [⟨(some 48),(.mov (.tmp 0)),none⟩,⟨(some 49),(.mov (.tmp 1)),none⟩,⟨(some 50),(.mov (.tmp 2)),none⟩,⟨(some 51),(.mov (.tmp 4)),none⟩,⟨(some 52),(.call (.func 193) [(.tmp 48),(.tmp 49),(.tmp 50),(.tmp 51)]),none⟩,⟨(some 47),(.mov (.tmp 52)),none⟩,⟨(some 53),(.ext (.tmp 47) 0),none⟩,⟨(some 54),(.ext (.tmp 47) 1),none⟩,⟨(some 13),(.mov (.tmp 53)),none⟩,⟨(some 14),(.mov (.tmp 54)),none⟩] false []) (.seq (.seq (.region [⟨(some 55),(.mov (.tmp 14)),none⟩,⟨(some 56),(.bin .eql 225 (.tmp 55) (.const (.int .i64 2))),none⟩] false []) (.cond (.tmp 56) (.seq (.region [⟨(some 57),(.mov (.tmp 0)),none⟩,⟨(some 58),(.mov (.tmp 1)),none⟩,⟨(some 59),(.mov (.tmp 2)),none⟩,⟨(some 60),(.mov (.tmp 4)),none⟩,⟨(some 61),(.call (.func 194) [(.tmp 57),(.tmp 58),(.tmp 59),(.tmp 60)]),none⟩] false []) (.seq (.region [⟨(some 62),(.mov (.tmp 2)),none⟩,⟨(some 63),(.bin .sub 3 (.tmp 62) (.const (.int .i64 1))),none⟩,⟨(some 64),(.mov (.tmp 13)),none⟩,⟨(some 65),(.mov (.tmp 1)),none⟩,⟨(some 66),(.bin .sub 3 (.tmp 64) (.tmp 65)),none⟩,⟨(some 67),(.bin .sub 3 (.tmp 63) (.tmp 66)),none⟩,⟨(some 13),(.mov (.tmp 67)),none⟩] false []) (.region [⟨(some 14),(.mov (.const (.int .i64 1))),none⟩] false []))) .skip)) (.seq (.seq (.region [⟨(some 68),(.mov (.tmp 10)),none⟩,⟨(some 69),(.mov (.tmp 68)),none⟩,⟨(some 70),(.mov (.tmp 11)),(some ((some 69),true))⟩,⟨(some 71),(.pick (.tmp 69) (.tmp 70) (.const (.bool false))),none⟩,⟨(some 72),(.mov (.tmp 71)),none⟩,⟨(some 73),(.mov (.tmp 14)),(some ((some 72),true))⟩,⟨(some 74),(.bin .eql 225 (.tmp 73) (.const (.int .i64 1))),(some ((some 72),true))⟩,⟨(some 75),(.pick (.tmp 72) (.tmp 74) (.const (.bool false))),none⟩] false []) (.cond (.tmp 75) (.seq (.region [⟨(some 76),(.mov (.tmp 0)),none⟩,⟨(some 77),(.mov (.tmp 1)),none⟩,⟨(some 78),(.mov (.tmp 2)),none⟩,⟨(some 79),(.mov (.tmp 4)),none⟩,⟨(some 80),(.call (.func 195) [(.tmp 76),(.tmp 77),(.tmp 78),(.tmp 79)]),none⟩] false []) (.cond (.tmp 80) .ret .skip)) .skip)) (.seq (.seq (.region [⟨(some 81),(.mov (.tmp 1)),none⟩,⟨(some 82),(.bin .gtr 3 (.tmp 81) (.const (.int .i64 0))),none⟩,⟨(some 83),(.mov (.tmp 82)),none⟩,⟨(some 84),(.mov (.tmp 4)),(some ((some 83),true))⟩,⟨(some 85),(.mov (.tmp 0)),(some ((some 83),true))⟩,⟨(some 86),(.mov (.tmp 1)),(some ((some 83),true))⟩,⟨(some 87),(.bin .sub 3 (.tmp 86) (.const (.int .i64 1))),(some ((some 83),true))⟩,⟨(some 88),(.iaddr none 2 (.tmp 85) (.tmp 87)),(some ((some 83),true))⟩,⟨(some 89),(.load true 2 (.tmp 88)),(some ((some 83),true))⟩,⟨(some 90),(.mov (.tmp 0)),(some ((some 83),true))⟩,⟨(some 91),(.mov (.tmp 13)),(some ((some 83),true))⟩,⟨(some 92),(.iaddr none 2 (.tmp 90) (.tmp 91)),(some ((some 83),true))⟩,⟨(some 93),(.load true 2 (.tmp 92)),(some ((some 83),true))⟩,⟨(some 94),(.call (.tmp 84) [(.tmp 89),(.tmp 93)]),(some ((some 83),true))⟩,⟨(some 95),(.bin .lss 3 (.tmp 94) (.const (.int .i64 0))),(some ((some 83),true))⟩,⟨(some 96),(.un .not (.tmp 95)),(some ((some 83),true))⟩,⟨(some 97),(.pick (.tmp 83) (.tmp 96) (.const (.bool false))),none⟩] true []) (.cond (.tmp 97) (.seq (.region [⟨(some 98),(.mov (.tmp 0)),none⟩,⟨(some 99),(.mov (.tmp 1)),none⟩,⟨(some 100),(.mov (.tmp 2)),none⟩,⟨(some 101),(.mov (.tmp 13)),none⟩,⟨(some 102),(.mov (.tmp 4)),none⟩,⟨(some 103),(.call (.func 196) [(.tmp 98),(.tmp 99),(.tmp 100),(.tmp 101),(.tmp 102)]),none⟩,⟨(some 15),(.mov (.tmp 103)),none⟩] false []) (.seq (.region [⟨(some 104),(.mov (.tmp 15)),none⟩,⟨(some 1),(.mov (.tmp 104)),none⟩] false []) (.exit 1))) .skip)) (.seq (.region [⟨(some 106),(.mov (.tmp 0)),none⟩,⟨(some 107),(.mov (.tmp 1)),none⟩,⟨(some 108),(.mov (.tmp 2)),none⟩,⟨(some 109),(.mov (.tmp 13)),none⟩,⟨(some 110),(.mov (.tmp 4)),none⟩,⟨(some 111),(.call (.func 197) [(.tmp 106),(.tmp 107),(.tmp 108),(.tmp 109),(.tmp 110)]),none⟩,⟨(some 105),(.mov (.tmp 111)),none⟩,⟨(some 112),(.ext (.tmp 105) 0),none⟩,⟨(some 113),(.ext (.tmp 105) 1),none⟩,⟨(some 16),(.mov (.tmp 112)),none⟩,⟨(some 17),(.mov (.tmp 113)),none⟩] false []) (.seq (.region [⟨(some 114),(.mov (.tmp 17)),none⟩,⟨(some 11),(.mov (.tmp 114)),none⟩] false []) (.seq (.region [⟨(some 115),(.mov (.tmp 16)),none⟩,⟨(some 116),(.mov (.tmp 1)),none⟩,⟨(some 117),(.bin .sub 3 (.tmp 115) (.tmp 116)),none⟩,⟨(some 118),(.mov (.tmp 2)),none⟩,⟨(some 119),(.mov (.tmp 16)),none⟩,⟨(some 120),(.bin .sub 3 (.tmp 118) (.tmp 119)),none⟩,⟨(some 18),(.mov (.tmp 117)),none⟩,⟨(some 19),(.mov (.tmp 120)),none⟩] false []) (.seq (.region [⟨(some 121),(.mov (.tmp 12)),none⟩,⟨(some 122),(.bin .quo 3 (.tmp 121) (.const (.int .i64 8))),none⟩,⟨(some 20),(.mov (.tmp 122)),none⟩] false []) (.seq (.region [⟨(some 123),(.mov (.tmp 18)),none⟩,⟨(some 124),(.mov (.tmp 19)),none⟩,⟨(some 125),(.bin .lss 3 (.tmp 123) (.tmp 124)),none⟩] false []) (.cond (.tmp 125) (.seq (.region [⟨(some 126),(.mov (.tmp 18)),none⟩,⟨(some 127),(.mov (.tmp 20)),none⟩,⟨(some 128),(.bin .geq 3 (.tmp 126) (.tmp 127)),none⟩,⟨(some 10),(.mov (.tmp 128)),none⟩] false []) (.seq (.region [⟨(some 129),(.mov (.tmp 0)),none⟩,⟨(some 130),(.mov (.tmp 1)),none⟩,⟨(some 131),(.mov (.tmp 16)),none⟩,⟨(some 132),(.mov (.tmp 3)),none⟩,⟨(some 133),(.mov (.tmp 4)),none⟩,⟨(some 134),(.call (.func 180) [(.tmp 129),(.tmp 130),(.tmp 131),(.tmp 132),(.tmp 133)]),none⟩] false []) (.region [⟨(some 135),(.mov (.tmp 16)),none⟩,⟨(some 136),(.bin .add 3 (.tmp 135) (.const (.int .i64 1))),none⟩,⟨(some 1),(.mov (.tmp 136)),none⟩] false []))) (.seq (.region [⟨(some 137),(.mov (.tmp 19)),none⟩,⟨(some 138),(.mov (.tmp 20)),none⟩,⟨(some 139),(.bin .geq 3 (.tmp 137) (.tmp 138)),none⟩,⟨(some 10),(.mov (.tmp 139)),none⟩] false []) (.seq (.region [⟨(some 140),(.mov (.tmp 0)),none⟩,⟨(some 141),(.mov (.tmp 16)),none⟩,⟨(some 142),(.bin .add 3 (.tmp 141) (.const (.int .i64 1))),none⟩,⟨(some 143),(.mov (.tmp 2)),none⟩,⟨(some 144),(.mov (.tmp 3)),none⟩,⟨(some 145),(.mov (.tmp 4)),none⟩,⟨(some 146),(.call (.func 180) [(.tmp 140),(.tmp 142),(.tmp 143),(.tmp 144),(.tmp 145)]),none⟩] false []) (.region [⟨(some 147),(.mov (.tmp 16)),none⟩,⟨(some 2),(.mov (.tmp 147)),none⟩] false []))))))))))))))))))
def c180 : ACode:=(.seq (.region [⟨(some 10),(.mov (.const (.bool true))),none⟩] false []) (.seq (.region [⟨(some 11),(.mov (.const (.bool true))),none⟩] false []) (.block 0 (.loop c180L0))))
def r180 : List ARes:=[]
def c190L0 : ACode:=(.seq (.seq (.region [⟨(some 18),(.mov (.tmp 9)),none⟩,⟨(some 19),(.mov (.tmp 1)),none⟩,⟨(some 20),(.bin .gtr 3 (.tmp 18) (.tmp 19)),none⟩,⟨(some 21),(.mov (.tmp 20)),none⟩,⟨(some 22),(.mov (.tmp 3)),(some ((some 21),true))⟩,⟨(some 23),(.mov (.tmp 0)),(some ((some 21),true))⟩,⟨(some 24),(.mov (.tmp 9)),(some ((some 21),true))⟩,⟨(some 25),(.iaddr none 2 (.tmp 23) (.tmp 24)),(some ((some 21),true))⟩,⟨(some 26),(.load true 2 (.tmp 25)),(some ((some 21),true))⟩,⟨(some 27),(.mov (.tmp 0)),(some ((some 21),true))⟩,⟨(some 28),(.mov (.tmp 9)),(some ((some 21),true))⟩,⟨(some 29),(.bin .sub 3 (.tmp 28) (.const (.int .i64 1))),(some ((some 21),true))⟩,⟨(some 30),(.iaddr none 2 (.tmp 27) (.tmp 29)),(some ((some 21),true))⟩,⟨(some 31),(.load true 2 (.tmp 30)),(some ((some 21),true))⟩,⟨(some 32),(.call (.tmp 22) [(.tmp 26),(.tmp 31)]),(some ((some 21),true))⟩,⟨(some 33),(.bin .lss 3 (.tmp 32) (.const (.int .i64 0))),(some ((some 21),true))⟩,⟨(some 34),(.pick (.tmp 21) (.tmp 33) (.const (.bool false))),none⟩] true []) (.cond (.tmp 34) .skip (.exit 2))) (.seq (.block 3 (.region [⟨(some 37),(.mov (.tmp 0)),none⟩,⟨(some 38),(.mov (.tmp 9)),none⟩,⟨(some 39),(.mov (.tmp 0)),none⟩,⟨(some 40),(.mov (.tmp 9)),none⟩,⟨(some 41),(.bin .sub 3 (.tmp 40) (.const (.int .i64 1))),none⟩,⟨(some 42),(.mov (.tmp 0)),none⟩,⟨(some 43),(.mov (.tmp 9)),none⟩,⟨(some 44),(.bin .sub 3 (.tmp 43) (.const (.int .i64 1))),none⟩,⟨(some 45),(.iaddr none 2 (.tmp 42) (.tmp 44)),none⟩,⟨(some 46),(.load true 2 (.tmp 45)),none⟩,⟨(some 47),(.mov (.tmp 0)),none⟩,⟨(some 48),(.mov (.tmp 9)),none⟩,⟨(some 49),(.iaddr none 2 (.tmp 47) (.tmp 48)),none⟩,⟨(some 50),(.load true 2 (.tmp 49)),none⟩,⟨(some 51),(.iaddr none 2 (.tmp 37) (.tmp 38)),none⟩,⟨none,(.store 2 (.tmp 51) (.tmp 46)),none⟩,⟨(some 52),(.iaddr none 2 (.tmp 39) (.tmp 41)),none⟩,⟨none,(.store 2 (.tmp 52) (.tmp 50)),none⟩] true [])) (.region [⟨(some 35),(.mov (.tmp 9)),none⟩,⟨(some 36),(.bin .sub 3 (.tmp 35) (.const (.int .i64 1))),none⟩,⟨(some 9),(.mov (.tmp 36)),none⟩] false [])))
def c190R1 : ACode:=(.region [⟨(some 15),(.mov (.tmp 8)),none⟩,⟨(some 16),(.bin .add 3 (.tmp 15) (.const (.int .i64 1))),none⟩,⟨(some 8),(.mov (.tmp 16)),none⟩] false [])
def c190L2 : ACode:=(.seq (.seq (.region [⟨(some 12),(.mov (.tmp 8)),none⟩,⟨(some 13),(.mov (.tmp 2)),none⟩,⟨(some 14),(.bin .lss 3 (.tmp 12) (.tmp 13)),none⟩] false []) (.cond (.tmp 14) .skip (.exit 0))) (.seq (.block 1 (.seq (.region [⟨(some 17),(.mov (.tmp 8)),none⟩,⟨(some 9),(.mov (.tmp 17)),none⟩] false []) (.block 2 (.loop c190L0)))) c190R1))
def c190 : ACode:=(.seq (.region [⟨(some 10),(.mov (.tmp 1)),none⟩,⟨(some 11),(.bin .add 3 (.tmp 10) (.const (.int .i64 1))),none⟩,⟨(some 8),(.mov (.tmp 11)),none⟩] false []) (.block 0 (.loop c190L2)))
def r190 : List ARes:=[]
theorem clos0 (a1 a2 b1 b2 : Int) (W : World) : Calls Go.Proofs.Try.prog 160 #[.agg #[.int .i64 a1,.int .i64 a2],.agg #[.int .i64 b1,.int .i64 b2]] W fun e w' => e = .returned (.int .i64 (IntKind.i64.wrap (a1 - b1))) ∧ ∃ q os',w' = grow (W.drewN q) os':=by
 go_enter Try.func160,Try.ntmps160
 go_wp2_with (fail)
 go_ret
 refine ⟨?_,0,_,by rw [alloc_eq_grow,alloc_eq_grow,grow_grow]; rfl⟩
 rw [Go.IntWalk.i64_left]
 rfl
theorem closR (x y : SR) (W : World) : Calls Go.Proofs.Try.prog 160 #[.agg (srE x).toArray,.agg (srE y).toArray] W fun e w' => e = .returned (.int .i64 (srCf x y)) ∧ ∃ q os',w' = grow (W.drewN q) os':=by
 have wr : IntKind.i64.wrap (x.1.1 - y.1.1) = srCf x y:=by
  have h1:=x.2
  have h2:=y.2
  unfold srCf
  exact wrap_i64 (by omega)
 rw [← wr]
 exact clos0 x.1.1 x.1.2 y.1.1 y.1.2 W
def lenP : List AV → Option AV
 | [.sc (.int .u64 0)] => some (.sc (.int .i64 0))
 | _ => none
theorem lenP_ok : PPrimOk Go.Proofs.Try.prog 181 lenP:=by
 intro args r h m F H w vs hI hl hv
 unfold lenP at h
 split at h
 ·cases h
  have h0:=(vr_sc (m:=m) (.fz (hv 0 _ rfl))).1
  obtain rfl : vs = #[.int .u64 0]:=by
   refine Array.ext (by simpa using hl) fun i h1 h2 => ?_
   simp at h2
   subst h2
   simpa [Array.getD_eq_getD_getElem?,h1] using h0
  refine .inl ⟨enters_of Try.func181 (by kernel_rfl) rfl _ _,?_⟩
  have hb:=Any.bits_Len (SlLaysF0.n15.bits (P:=Go.Proofs.Try.prog) (ρ:=Try.sortRun_ren) { Try.sortRun with }) 0 w (by omega) (by omega)
  refine hb.mono fun e w' ⟨he,hw⟩ => ?_
  subst hw
  exact ⟨_,m,F,he,.fz (.sc rfl),hI,Ext.refl m F _,Grew.refl m H⟩
 ·cases h
def ftZ : FT
 | 159 => some (.go true 14 r159 c159)
 | 180 => some (.go true 148 r180 c180)
 | 190 => some (.go true 53 r190 c190)
 | 181 => some (.pprim lenP)
 | _ => none
theorem fcZ159 : compF Go.Proofs.Try.prog 159 = some (14,r159,c159):=by rfl
theorem fcZ180 : compF Go.Proofs.Try.prog 180 = some (148,r180,c180):=by rfl
theorem fcZ190 : compF Go.Proofs.Try.prog 190 = some (53,r190,c190):=by rfl
theorem fnZ159 : (Go.Proofs.Try.prog.funcs[159]?).all (fun fn => !(fn.name == "runtime.NumGoroutine")) = true:=by kernel_rfl
theorem fnZ180 : (Go.Proofs.Try.prog.funcs[180]?).all (fun fn => !(fn.name == "runtime.NumGoroutine")) = true:=by kernel_rfl
theorem fnZ190 : (Go.Proofs.Try.prog.funcs[190]?).all (fun fn => !(fn.name == "runtime.NumGoroutine")) = true:=by kernel_rfl
theorem ftZ_ok : FTOk Go.Proofs.Try.prog ftZ:=by
 intro k d h
 unfold ftZ at h
 split at h
 ·cases h; exact go_ok fcZ159 fnZ159
 ·cases h; exact go_ok fcZ180 fnZ180
 ·cases h; exact go_ok fcZ190 fnZ190
 ·cases h; exact lenP_ok
 ·cases h
def clF : AV:=.fn (.func 160) [] []
theorem e190 (H : Heap) : callL ftZ (.fn (.func 190) [] []) [.lst [],int 0,int 0,clF] H = some (.tup [],H):=by
 refine call_p (as':=[.lst [],int 0,int 0,clF]) rfl rfl (by simp) ?_
 unfold c190 r190
 have w01 : IntKind.i64.wrap (0 + 1) = 1:=rfl
 have z0 : frz FZ (hx Heap.empty []) (retV []) = some (.tup [],hx Heap.empty []):=rfl
 simp only [↓vp,vz,Nat.reduceLT,Nat.reduceEqDiff,Nat.reduceLeDiff,Nat.reduceAdd,Nat.reduceSub,Nat.reduceMul,Int.reduceBEq,Int.reduceBNe,Int.reduceLT,Int.reduceLE,Int.reduceEq,reduceIte,reduceCtorEq,da,int,boolA]
 rw [AW_loop]
 unfold c190L2
 simp only [↓vp,vz,Nat.reduceLT,Nat.reduceEqDiff,Nat.reduceLeDiff,Nat.reduceAdd,Nat.reduceSub,Nat.reduceMul,Int.reduceBEq,Int.reduceBNe,Int.reduceLT,Int.reduceLE,Int.reduceEq,reduceIte,reduceCtorEq,da,int,boolA,w01]
 exact ⟨rfl,_,_,rfl,rfl⟩
theorem e180 (H : Heap) : callL ftZ (.fn (.func 180) [] []) [.lst [],int 0,int 0,int 0,clF] H = some (.tup [],H):=by
 refine call_p (as':=[.lst [],int 0,int 0,int 0,clF]) rfl rfl (by simp) ?_
 unfold c180 r180
 have w00 : IntKind.i64.wrap (0 - 0) = 0:=rfl
 have k190:=fun K L Q => @KW_of ftZ _ _ _ Q _ _ (e190 (hx K L))
 simp only [int] at k190
 simp only [↓vp,vz,Nat.reduceLT,Nat.reduceEqDiff,Nat.reduceLeDiff,Nat.reduceAdd,Nat.reduceSub,Nat.reduceMul,Int.reduceBEq,Int.reduceBNe,Int.reduceLT,Int.reduceLE,Int.reduceEq,reduceIte,reduceCtorEq,da,int,boolA]
 rw [AW_loop]
 unfold c180L0
 simp only [↓vp,vz,Nat.reduceLT,Nat.reduceEqDiff,Nat.reduceLeDiff,Nat.reduceAdd,Nat.reduceSub,Nat.reduceMul,Int.reduceBEq,Int.reduceBNe,Int.reduceLT,Int.reduceLE,Int.reduceEq,reduceIte,reduceCtorEq,da,int,boolA,w00,k190]
 exact ⟨rfl,_,_,rfl,rfl⟩
theorem e159 (H : Heap) : callL ftZ (.fn (.func 159) [] []) [.lst [],clF] H = some (.tup [],H):=by
 refine call_p (as':=[.lst [],clF]) rfl rfl (by simp) ?_
 unfold c159 r159
 have k180:=fun K L Q => @KW_of ftZ _ _ _ Q _ _ (e180 (hx K L))
 have k181 : ∀ K L Q,KW ftZ (.fn (.func 181) [] []) [.sc (.int .u64 0)] (hx K L) Q ↔ Q (.sc (.int .i64 0)) (hx K L):=fun K L Q => KW_of (call_pprim (p:=lenP) rfl rfl rfl)
 have l0 : ∀ H,lenV H 0 (.lst []) = some (.sc (.int .i64 0),H):=fun _ => rfl
 simp only [int] at k180
 simp only [↓vp,vz,Nat.reduceLT,Nat.reduceEqDiff,Nat.reduceLeDiff,Nat.reduceAdd,Nat.reduceSub,Nat.reduceMul,Int.reduceBEq,Int.reduceBNe,Int.reduceLT,Int.reduceLE,Int.reduceEq,reduceIte,reduceCtorEq,da,int,boolA,l0,(show IntKind.u64.wrap 0 = 0 from rfl),k181,k180]
 exact ⟨rfl,_,_,rfl,rfl⟩
theorem sort159 : PrimOk Go.Proofs.Try.prog 159 (sortP 160):=by
 refine sortP_ok Try.sortRun rfl (fun w => ?_) (fun w => ?_) ?_ ?_ closR (goP_ok (k:=159) (by kernel_rfl) ftZ_ok ⟨_,_,_,rfl⟩) ?_
 ·exact Go.Proofs.Try.isAgg83 w
 ·exact Go.Proofs.Try.sizeOf83 w
 ·exact Try.sortRun.f6.enters rfl
 ·exact enters_of Try.func160 (by kernel_rfl) rfl
 ·unfold goP
  have hc : closedL [.lst [],.fn (.func 160) [] []] = true:=rfl
  rw [if_pos hc]
  have:=e159 Heap.empty
  unfold clF at this
  rw [this]
  rfl
end Go.VI
