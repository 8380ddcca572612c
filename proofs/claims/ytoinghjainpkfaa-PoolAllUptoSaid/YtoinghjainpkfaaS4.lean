import Derived.Test.YtoinghjainpkfaaS3
import Derived.Sort.AssemblyPlain
import Derived.Lib.BitFns
/- What the claim hangs on, part 4: VXI VXJ VXK VXL VXM VXN VXO VXP VZ VZT. -/
set_option linter.unusedVariables false
set_option linter.unusedSimpArgs false
set_option maxRecDepth 100000
namespace Go.VI
attribute [local congr] AW_congr OW_congr DW_congr NW_congr VW_congr GW_congr PW_congr KW_congr ite_congr' GV_congr CV_congr dx_congr dOW_congr dop_congr CP_congr AQ_congr AZ_congr callD_congr NQ_congr
section
variable {ft : FT} {sz b ins ov rot idx : Nat} {z : List AV} {H : Heap} {id len i j cn : Nat} {v : AV} {rsF rows xs : List (List AV)}
theorem rep_walk (hins : ft ins = some (.prim (insP sz b))) (hov : ft ov = some (.prim ovP)) (hz : z.length = sz) (hid : id < H.next) (hcn : rsF.length = cn) (hlen : len ≤ rows.length) (hpre : rsF.take rows.length = rows) (hall : ∀ r ∈ rsF,r.length = sz) (hij : i ≤ j) (hj : j ≤ len) (h1 : 1 < sz) (hvr : vRows H id v = some xs) (hxa : allSz sz xs = true) (hb : (len + xs.length) * b ≤ 140737488355328) (b0 : 0 < b) :
  dCall ft (kap id cn) 224 [.tmp 8] (repC sz b z ins ov rot idx) [.sl id 0 len,.sc (.int .i64 (i : Int)),.sc (.int .i64 (j : Int)),v] (H.set id (.row false sz rsF)) (FinR H id sz 0 ((rows.take len).take i ++ xs ++ (rows.take len).drop j)):=by
 have cdo : ∀ F C,calleeD ft (.fn (.func ov) F C) = none:=fun _ _ => calleeD_det (isDp_prim hov)
 have cdi : ∀ F C,calleeD ft (.fn (.func ins) F C) = none:=fun _ _ => calleeD_det (isDp_prim hins)
 have hv:=vOk_of hid h1 hvr hxa
 have hrl : rows.length ≤ rsF.length:=by have:=congrArg List.length hpre; simp at this; omega
 have hlb : len + xs.length ≤ 140737488355328:=Nat.le_trans (Nat.le_mul_of_pos_right _ b0) hb
 have hR : ∀ R,(H.set id R).get id = some R:=fun R => Heap.get_set_self _ hid
 have gq:=fun R L => get_oldx (hR R) L
 have sq : ∀ R L b',(hx (H.set id R) L).set id b' = hx (H.set id b') L:=fun R L b' => by rw [hx_set_old _ _ _ _ (by simpa using hid),set_set]
 have hw : ∀ k : Nat,k ≤ 140737488355328 → IntKind.i64.wrap (k : Int) = k:=fun k hk => wrap_i64 (by omega)
 have hA : rsF.take len = rows.take len:=by rw [← hpre,List.take_take,Nat.min_eq_left hlen]
 have lA : (rows.take len).length = len:=by simp; omega
 have hAi : (rows.take len).take i = rsF.take i:=by rw [← hA,List.take_take,Nat.min_eq_left (by omega)]
 have lAi : (rsF.take i).length = i:=by simp; omega
 generalize hDD : (rows.take len).drop j = D
 have lD : D.length = len - j:=by rw [← hDD]; simp; omega
 have hD : (rsF.drop j).take (len - j) = D:=by rw [← hDD,← hA,List.drop_take]
 have lR : ((rows.take len).take i ++ xs ++ D).length = i + xs.length + (len - j):=by
  simp only [List.length_append,lD]
  rw [hAi,lAi]
 have aD : allSz sz D = true:=by
  simp only [allSz,List.all_eq_true,beq_iff_eq]
  intro r hr
  rw [← hD] at hr
  exact hall r (List.mem_of_mem_drop (List.mem_of_mem_take hr))
 have hrw:=hv.rows
 have hlv:=hv.len
 obtain ⟨tv,q0⟩ : ∃ tv,∀ L,sliceA (hx (H.set id (.row false sz rsF)) L) sz (.sl id 0 len) (some (i : Int)) (some (j : Int)) none = some tv:=⟨_,fun L => sl_lh (gq _ L) (by omega) hij (by omega)⟩
 have q1 : ∀ L,sliceA (hx (H.set id (.row false sz rsF)) L) sz (.sl id 0 len) none (some (i : Int)) none = some (.sl id 0 i):=fun L => sl_hi (gq _ L) (by omega) (by omega)
 unfold dCall
 rw [enterE_mkE _ _ (by simp),← hx_nil (H.set id _)]
 unfold repC
 by_cases e1 : i = j
 ·subst e1
  have d1 : ((i : Int) == (i : Int)) = true:=by simp
  have hk : insP sz b [.sl id 0 len,.sc (.int .i64 (i : Int)),v] (hx (H.set id (.row false sz rsF)) []) = some (.sl (H.next + 0) 0 ((rows.take len).take i ++ xs ++ D).length,(hx (H.set id .dead) (List.replicate 0 .dead)).put (H.next + 0) (.row false sz ((rows.take len).take i ++ xs ++ D))):=by
   unfold insP cutP
   simp only [gq,vRows_set hid hvr,Option.bind_some]
   rw [if_pos ⟨by trivial,h1,by omega,by omega,by omega,by omega,hxa,hb⟩]
   simp only [hx_nil,Heap.next_set,set_set,List.replicate_zero,Int.toNat_natCast,hA,hDD]
  have kk:=fun Q => k_prim hins (Q:=Q) hk (by simp only [List.replicate_zero,hx_nil]; simpa using Heap.next_put_le (H.set id .dead) _ (H.next + 0))
  simp only [vx,↓vp,vz,Nat.reduceLT,Nat.reduceEqDiff,Nat.reduceLeDiff,Nat.reduceAdd,Nat.reduceSub,Nat.reduceMul,Int.reduceBEq,Int.reduceBNe,Int.reduceLT,Int.reduceLE,Int.reduceEq,reduceIte,reduceCtorEq,opI0,opI1,q0,d1,kk,cdi]
  rw [res1 (by decide)]
  simp only [↓vp,vz,Nat.reduceLT,Nat.reduceEqDiff,Nat.reduceLeDiff,Nat.reduceAdd,Nat.reduceSub,Nat.reduceMul,Int.reduceBEq,Int.reduceBNe,Int.reduceLT,Int.reduceLE,Int.reduceEq,reduceIte,reduceCtorEq]
  refine .inr (.inr ⟨rfl,?_⟩)
  rw [List.replicate_zero,hx_nil,Nat.add_zero]
  have:=hx_put0 (H.set id .dead) [] (.row false sz ((rows.take len).take i ++ xs ++ D))
  rw [Heap.next_set,hx_nil] at this
  rw [this]
  rfl
 have d1 : ((i : Int) == (j : Int)) = false:=beq_eq_false_iff_ne.2 (by omega)
 by_cases e2 : j = len
 ·subst e2
  have d2 : ((j : Int) == (j : Int)) = true:=by simp
  have hDn : D = []:=List.eq_nil_of_length_eq_zero (by omega)
  subst hDn
  have lR' : ((rows.take j).take i ++ xs).length = i + xs.length:=by
   rw [List.append_nil] at lR
   omega
  simp only [vx,↓vp,vz,Nat.reduceLT,Nat.reduceEqDiff,Nat.reduceLeDiff,Nat.reduceAdd,Nat.reduceSub,Nat.reduceMul,Int.reduceBEq,Int.reduceBNe,Int.reduceLT,Int.reduceLE,Int.reduceEq,reduceIte,reduceCtorEq,opI0,opI1,q0,q1,d1,d2,hrw]
  by_cases c3 : i + xs.length ≤ cn
  ·refine AQ_in' (kap_self _ _) (gq _ _) (by omega) (Nat.le_trans (Nat.mul_le_mul_right _ (by omega)) hb) hxa (by omega) ?_
   rw [sq,Nat.zero_add]
   have lS : (spl rsF i xs).length = cn:=by rw [spl_len (by omega),hcn]
   by_cases c4 : i + xs.length < j
   ·have d4 : decide (((i + xs.length : Nat) : Int) < (j : Int)) = true:=by simp; omega
    have q2 : ∀ L,sliceA (hx (H.set id (.row false sz (spl rsF i xs))) L) sz (.sl id 0 j) (some ((i + xs.length : Nat) : Int)) none none = some (.sl id (i + xs.length) (j - (i + xs.length))):=fun L => by rw [sl_lo (gq _ L) (by omega) (by omega),if_neg (by omega)]
    have p2 : ∀ L,clrA (hx (H.set id (.row false sz (spl rsF i xs))) L) sz z (.sl id (i + xs.length) (j - (i + xs.length))) = some (hx (H.set id (.row false sz (spl (spl rsF i xs) (i + xs.length) (List.replicate (j - (i + xs.length)) z)))) L):=fun L => by
     rw [clr_sl (gq _ _) (by omega),sq]
    simp only [vx,opS_clr,↓vp,vz,Nat.reduceLT,Nat.reduceEqDiff,Nat.reduceLeDiff,Nat.reduceAdd,Nat.reduceSub,Nat.reduceMul,Int.reduceBEq,Int.reduceBNe,Int.reduceLT,Int.reduceLE,Int.reduceEq,reduceIte,reduceCtorEq,opI0,opI1,d4,q2,p2]
    rw [res1 (by decide)]
    simp only [↓vp,vz,Nat.reduceLT,Nat.reduceEqDiff,Nat.reduceLeDiff,Nat.reduceAdd,Nat.reduceSub,Nat.reduceMul,Int.reduceBEq,Int.reduceBNe,Int.reduceLT,Int.reduceLE,Int.reduceEq,reduceIte,reduceCtorEq]
    refine fin_in (g:=0) lR'.symm (by rw [spl_len (by simp; omega)]; omega) ?_
    rw [List.drop_zero,spl_pre (by simp; omega),spl_end (by omega),hAi]
   ·have d4 : decide (((i + xs.length : Nat) : Int) < (j : Int)) = false:=by simp; omega
    simp only [vx,↓vp,vz,Nat.reduceLT,Nat.reduceEqDiff,Nat.reduceLeDiff,Nat.reduceAdd,Nat.reduceSub,Nat.reduceMul,Int.reduceBEq,Int.reduceBNe,Int.reduceLT,Int.reduceLE,Int.reduceEq,reduceIte,reduceCtorEq,opI0,opI1,d4]
    rw [res1 (by decide)]
    simp only [↓vp,vz,Nat.reduceLT,Nat.reduceEqDiff,Nat.reduceLeDiff,Nat.reduceAdd,Nat.reduceSub,Nat.reduceMul,Int.reduceBEq,Int.reduceBNe,Int.reduceLT,Int.reduceLE,Int.reduceEq,reduceIte,reduceCtorEq]
    refine fin_in (g:=0) lR'.symm (by omega) ?_
    rw [List.drop_zero,spl_end (by omega),hAi]
  ·have d4 : decide (((i + xs.length : Nat) : Int) < (j : Int)) = false:=by simp; omega
   refine AQ_new (kap_self _ _) (gq _ _) (by omega) (Nat.le_trans (Nat.mul_le_mul_right _ (by omega)) hb) hxa (by omega) ?_
   simp only [vx,↓vp,vz,Nat.reduceLT,Nat.reduceEqDiff,Nat.reduceLeDiff,Nat.reduceAdd,Nat.reduceSub,Nat.reduceMul,Int.reduceBEq,Int.reduceBNe,Int.reduceLT,Int.reduceLE,Int.reduceEq,reduceIte,reduceCtorEq,opI0,opI1,d4]
   rw [res1 (by decide)]
   simp only [↓vp,vz,Nat.reduceLT,Nat.reduceEqDiff,Nat.reduceLeDiff,Nat.reduceAdd,Nat.reduceSub,Nat.reduceMul,Int.reduceBEq,Int.reduceBNe,Int.reduceLT,Int.reduceLE,Int.reduceEq,reduceIte,reduceCtorEq]
   refine fin_new lR'.symm ?_
   try rw [List.drop_zero]
   rw [hAi]
 have d2 : ((j : Int) == (len : Int)) = false:=beq_eq_false_iff_ne.2 (by omega)
 have hjl : j < len:=by omega
 generalize hT : i + xs.length + (len - j) = T at lR
 have hTb : T ≤ len + xs.length:=by omega
 have w1 : IntKind.i64.wrap ((i : Int) + (xs.length : Int)) = ((i + xs.length : Nat) : Int):=by rw [← Int.natCast_add]; exact hw _ (by omega)
 have w2 : IntKind.i64.wrap (((i + xs.length : Nat) : Int) + ((len - j : Nat) : Int)) = (T : Int):=by
  rw [show ((i + xs.length : Nat) : Int) + ((len - j : Nat) : Int) = (T : Int) by omega]
  exact hw _ (by omega)
 have w3 : IntKind.i64.wrap ((T : Int) - (i : Int)) = ((T - i : Nat) : Int):=by
  rw [show (T : Int) - (i : Int) = ((T - i : Nat) : Int) by omega]
  exact hw _ (by omega)
 have cc : ∀ G K,CP (kap id cn) (.sl id 0 len) G K ↔ K (.sc (.int .i64 ((cn - 0 : Nat) : Int))) G:=fun G K => CP_sl (kap_self id cn)
 have q3 : ∀ L,sliceA (hx (H.set id (.row false sz rsF)) L) sz (.sl id 0 len) (some (j : Int)) none none = some (.sl id j (len - j)):=fun L => by rw [sl_lo (gq _ L) (by omega) (by omega),if_neg (by omega)]
 have q4 : ∀ L,rowsOf (hx (H.set id (.row false sz rsF)) L) (.sl id j (len - j)) = some D:=fun L => by
  rw [rowsOf_sl,gq]
  simp only
  rw [if_pos (by omega),hD]
 by_cases c3 : cn < T
 ·have d3 : decide (((cn - 0 : Nat) : Int) < (T : Int)) = true:=by simp; omega
  have g2 : ∀ R B L,(hx (H.set id R) (B :: L)).get H.next = some B:=fun R B L => by
   have:=hx_get0 (H.set id R) (B :: L)
   rwa [Heap.next_set] at this
  have st2 : ∀ R B b',(hx (H.set id R) [B]).set H.next b' = hx (H.set id R) [b']:=fun R B b' => by
   have:=hx_set0 (H.set id R) [B] b'
   rwa [Heap.next_set] at this
  have pt2 : ∀ R B,(hx (H.set id R) []).put H.next B = hx (H.set id R) [B]:=fun R B => by
   have:=hx_put0 (H.set id R) [] B
   rw [Heap.next_set] at this
   rw [this]
   rfl
  simp only [vx,↓vp,vz,Nat.reduceLT,Nat.reduceEqDiff,Nat.reduceLeDiff,Nat.reduceAdd,Nat.reduceSub,Nat.reduceMul,Int.reduceBEq,Int.reduceBNe,Int.reduceLT,Int.reduceLE,Int.reduceEq,reduceIte,reduceCtorEq,opI0,opI1,q0,q1,q3,d1,d2,hlv,cc,w1,w2,w3,d3]
  refine AZ_new (kap_self _ _) (gq _ _) (by omega) (Nat.le_trans (Nat.mul_le_mul_right _ (by omega)) hb) hz (by omega) ?_
  rw [pt2,List.drop_zero]
  have e3 : i + (T - i) = T:=by omega
  rw [e3]
  have s3 : ∀ R B L (k n : Nat),n ≤ B.length → k ≤ n → sliceA (hx (H.set id R) (.row false sz B :: L)) sz (.sl H.next 0 n) (some (k : Int)) none none = some (if 0 < k ∧ k = n then .lst [] else .sl H.next k (n - k)):=fun R B L k n h h2 => sl_lo (g2 _ _ L) h h2
  have cpN : ∀ R B off n X,off + n ≤ B.length → X.length ≤ n → allSz sz X = true → copyA (hx (H.set id R) [.row false sz B]) sz (.sl H.next off n) X = some (X.length,hx (H.set id R) [.row false sz (spl B off X)]):=fun R B off n X h1 h2 h3 => by
   rw [copy_sl (g2 _ _ _) h1 h3,Nat.min_eq_left h2,List.take_length,st2]
  have lN : (rsF.take i ++ List.replicate (T - i) z).length = T:=by rw [List.length_append,lAi,List.length_replicate]; omega
  have lN2 : (spl (rsF.take i ++ List.replicate (T - i) z) i xs).length = T:=by rw [spl_len (by omega),lN]
  generalize hN : rsF.take i ++ List.replicate (T - i) z = N0 at lN lN2
  have q5 : ∀ L,sliceA (hx (H.set id (.row false sz rsF)) (.row false sz N0 :: L)) sz (.sl H.next 0 T) (some (i : Int)) none none = some (.sl H.next i (T - i)):=fun L => by rw [s3 _ _ _ _ _ (by omega) (by omega),if_neg (by omega)]
  have q6 : ∀ L,sliceA (hx (H.set id (.row false sz rsF)) (.row false sz (spl N0 i xs) :: L)) sz (.sl H.next 0 T) (some ((i + xs.length : Nat) : Int)) none none = some (.sl H.next (i + xs.length) (T - (i + xs.length))):=fun L => by rw [s3 _ _ _ _ _ (by omega) (by omega),if_neg (by omega)]
  have p1:=cpN (.row false sz rsF) N0 i (T - i) xs (by omega) (by omega) hxa
  have p2:=cpN (.row false sz rsF) (spl N0 i xs) (i + xs.length) (T - (i + xs.length)) D (by omega) (by omega) aD
  simp only [vx,↓vp,vz,Nat.reduceLT,Nat.reduceEqDiff,Nat.reduceLeDiff,Nat.reduceAdd,Nat.reduceSub,Nat.reduceMul,Int.reduceBEq,Int.reduceBNe,Int.reduceLT,Int.reduceLE,Int.reduceEq,reduceIte,reduceCtorEq,opI0,opI1,q3,q4,q5,q6,p1,p2,hrw,hlv,w1]
  rw [res1 (by decide)]
  simp only [↓vp,vz,Nat.reduceLT,Nat.reduceEqDiff,Nat.reduceLeDiff,Nat.reduceAdd,Nat.reduceSub,Nat.reduceMul,Int.reduceBEq,Int.reduceBNe,Int.reduceLT,Int.reduceLE,Int.reduceEq,reduceIte,reduceCtorEq]
  refine fin_new lR.symm ?_
  rw [← hN,spl_new lAi (by rw [List.length_replicate]; omega),hAi]
 have d3 : decide (((cn - 0 : Nat) : Int) < (T : Int)) = false:=by simp; omega
 have q5 : ∀ L,sliceA (hx (H.set id (.row false sz rsF)) L) sz (.sl id 0 len) none (some (T : Int)) none = some (.sl id 0 T):=fun L => sl_hi (gq _ L) (by omega) (by omega)
 by_cases c4 : i + xs.length ≤ j
 ·have d4 : decide (((i + xs.length : Nat) : Int) ≤ (j : Int)) = true:=by simp; omega
  have lS : (spl rsF i xs).length = cn:=by rw [spl_len (by omega),hcn]
  have lS2 : (spl (spl rsF i xs) (i + xs.length) D).length = cn:=by rw [spl_len (by omega),lS]
  have q6 : ∀ L,sliceA (hx (H.set id (.row false sz rsF)) L) sz (.sl id 0 T) (some (i : Int)) none none = some (.sl id i (T - i)):=fun L => by rw [sl_lo (gq _ L) (by omega) (by omega),if_neg (by omega)]
  have p1 : ∀ L,copyA (hx (H.set id (.row false sz rsF)) L) sz (.sl id i (T - i)) xs = some (xs.length,hx (H.set id (.row false sz (spl rsF i xs))) L):=fun L => by
   rw [copy_sl (gq _ _) (by omega) hxa,sq,Nat.min_eq_left (by omega),List.take_length]
  have q7 : ∀ L,sliceA (hx (H.set id (.row false sz (spl rsF i xs))) L) sz (.sl id 0 T) (some ((i + xs.length : Nat) : Int)) none none = some (.sl id (i + xs.length) (T - (i + xs.length))):=fun L => by rw [sl_lo (gq _ L) (by omega) (by omega),if_neg (by omega)]
  have q8 : ∀ L,sliceA (hx (H.set id (.row false sz (spl rsF i xs))) L) sz (.sl id 0 len) (some (j : Int)) none none = some (.sl id j (len - j)):=fun L => by rw [sl_lo (gq _ L) (by omega) (by omega),if_neg (by omega)]
  have hSj : (spl rsF i xs).drop j = rsF.drop j:=by
   have e1 : rsF = rsF.take i ++ rsF.drop i:=(List.take_append_drop _ _).symm
   conv => lhs; rw [e1]
   rw [spl_app lAi,List.drop_append,List.drop_eq_nil_of_le (by simp; omega),List.nil_append,List.drop_drop,List.drop_drop]
   congr 1
   simp [lAi]
   omega
  have q9 : ∀ L,rowsOf (hx (H.set id (.row false sz (spl rsF i xs))) L) (.sl id j (len - j)) = some D:=fun L => by
   rw [rowsOf_sl,gq]
   simp only
   rw [if_pos (by omega),hSj,hD]
  have p2 : ∀ L,copyA (hx (H.set id (.row false sz (spl rsF i xs))) L) sz (.sl id (i + xs.length) (T - (i + xs.length))) D = some (D.length,hx (H.set id (.row false sz (spl (spl rsF i xs) (i + xs.length) D))) L):=fun L => by
   rw [copy_sl (gq _ _) (by omega) aD,sq,Nat.min_eq_left (by omega),List.take_length]
  obtain ⟨cv,qa,pa⟩ : ∃ cv,(∀ L,sliceA (hx (H.set id (.row false sz (spl (spl rsF i xs) (i + xs.length) D))) L) sz (.sl id 0 len) (some (T : Int)) none none = some cv) ∧ ∃ n,T + n ≤ cn ∧ ∀ L,clrA (hx (H.set id (.row false sz (spl (spl rsF i xs) (i + xs.length) D))) L) sz z cv = some (hx (H.set id (.row false sz (spl (spl (spl rsF i xs) (i + xs.length) D) T (List.replicate n z)))) L):=by
   by_cases e : 0 < T ∧ T = len
   ·refine ⟨.lst [],fun L => by rw [sl_lo (gq _ L) (by omega) (by omega),if_pos e],0,by omega,fun L => ?_⟩
    have h0 : ∀ l : List (List AV),spl l T (List.replicate 0 z) = l:=fun l => splice_nil l T
    rw [h0]
    rfl
   ·refine ⟨.sl id T (len - T),fun L => by rw [sl_lo (gq _ L) (by omega) (by omega),if_neg e],len - T,by omega,fun L => ?_⟩
    rw [clr_sl (gq _ _) (by omega),sq]
  obtain ⟨nn,hnn,pa⟩:=pa
  simp only [vx,opS_clr,↓vp,vz,Nat.reduceLT,Nat.reduceEqDiff,Nat.reduceLeDiff,Nat.reduceAdd,Nat.reduceSub,Nat.reduceMul,Int.reduceBEq,Int.reduceBNe,Int.reduceLT,Int.reduceLE,Int.reduceEq,reduceIte,reduceCtorEq,opI0,opI1,q0,q1,q3,q4,q5,q6,q7,q8,q9,p1,p2,qa,pa,hrw,hlv,d1,d2,cc,w1,w2,d3,d4]
  rw [res1 (by decide)]
  simp only [↓vp,vz,Nat.reduceLT,Nat.reduceEqDiff,Nat.reduceLeDiff,Nat.reduceAdd,Nat.reduceSub,Nat.reduceMul,Int.reduceBEq,Int.reduceBNe,Int.reduceLT,Int.reduceLE,Int.reduceEq,reduceIte,reduceCtorEq]
  refine fin_in (g:=0) lR.symm (by rw [spl_len (by simp; omega)]; omega) ?_
  rw [List.drop_zero,spl_pre (by simp; omega)]
  have:=spl_in3 (R:=rsF) (xs:=xs) (D:=D) (i:=i) (by omega)
  rw [lD,hT] at this
  rw [this,hAi]
 ·have d4 : decide (((i + xs.length : Nat) : Int) ≤ (j : Int)) = false:=by simp; omega
  have lS : (spl rsF (i + xs.length) D).length = cn:=by rw [spl_len (by omega),hcn]
  have q6 : ∀ L,sliceA (hx (H.set id (.row false sz rsF)) L) sz (.sl id 0 T) (some ((i + xs.length : Nat) : Int)) none none = some (.sl id (i + xs.length) (T - (i + xs.length))):=fun L => by rw [sl_lo (gq _ L) (by omega) (by omega),if_neg (by omega)]
  have p1 : ∀ L,copyA (hx (H.set id (.row false sz rsF)) L) sz (.sl id (i + xs.length) (T - (i + xs.length))) D = some (D.length,hx (H.set id (.row false sz (spl rsF (i + xs.length) D))) L):=fun L => by
   rw [copy_sl (gq _ _) (by omega) aD,sq,Nat.min_eq_left (by omega),List.take_length]
  have q7 : ∀ L,sliceA (hx (H.set id (.row false sz (spl rsF (i + xs.length) D))) L) sz (.sl id 0 T) (some (i : Int)) none none = some (.sl id i (T - i)):=fun L => by rw [sl_lo (gq _ L) (by omega) (by omega),if_neg (by omega)]
  have p2 : ∀ L,copyA (hx (H.set id (.row false sz (spl rsF (i + xs.length) D))) L) sz (.sl id i (T - i)) xs = some (xs.length,hx (H.set id (.row false sz (spl (spl rsF (i + xs.length) D) i xs))) L):=fun L => by
   rw [copy_sl (gq _ _) (by omega) hxa,sq,Nat.min_eq_left (by omega),List.take_length]
  have ko : ∀ Q,KW ft (.fn (.func ov) [] []) [.sl id (i + xs.length) (T - (i + xs.length)),v] (hx (H.set id (.row false sz rsF)) []) Q ↔ Q (.sc (.bool false)) (hx (H.set id (.row false sz rsF)) []):=fun Q => k_ov hov (hv.ovr _ _ _ _ (by omega))
  simp only [vx,↓vp,vz,Nat.reduceLT,Nat.reduceEqDiff,Nat.reduceLeDiff,Nat.reduceAdd,Nat.reduceSub,Nat.reduceMul,Int.reduceBEq,Int.reduceBNe,Int.reduceLT,Int.reduceLE,Int.reduceEq,reduceIte,reduceCtorEq,opI0,opI1,q0,q1,q3,q4,q5,q6,q7,p1,p2,ko,cdo,hrw,hlv,d1,d2,cc,w1,w2,d3,d4]
  rw [res1 (by decide)]
  simp only [↓vp,vz,Nat.reduceLT,Nat.reduceEqDiff,Nat.reduceLeDiff,Nat.reduceAdd,Nat.reduceSub,Nat.reduceMul,Int.reduceBEq,Int.reduceBNe,Int.reduceLT,Int.reduceLE,Int.reduceEq,reduceIte,reduceCtorEq]
  refine fin_in (g:=0) lR.symm (by rw [spl_len (by omega)]; omega) ?_
  have:=spl_in (R:=rsF) (xs:=xs) (D:=D) (i:=i) (n:=i + D.length) (by omega) (by omega) (by omega)
  rw [show i + D.length + xs.length = T by omega] at this
  rw [List.drop_zero,this,hAi]
end
end Go.VI
namespace Go.VI
attribute [local congr] AW_congr OW_congr DW_congr NW_congr VW_congr GW_congr PW_congr KW_congr ite_congr' GV_congr CV_congr dx_congr dOW_congr dop_congr CP_congr AQ_congr AZ_congr callD_congr NQ_congr
theorem sl_nil0 (H : Heap) (sz : Nat) (a c : Option Int) (ha : a = none ∨ a = some 0) (hc : c = none ∨ c = some 0) : sliceA H sz (.sc (.slice none 0 0)) a c none = some (.sc (.slice none 0 0)):=by
 rcases ha with rfl | rfl <;> rcases hc with rfl | rfl <;> rfl
theorem res_tmp {H : Heap} {n t : Nat} {f : Nat → AV} (ht : t < n) : resultsA H (mkE n f) [.tmp t] = some (f t):=by
 simp only [resultsA,List.mapM_cons,List.mapM_nil,resOf]
 rw [mkE_get,if_pos ht]
 rfl
theorem lenV_v {H G : Heap} {id : Nat} {v : AV} {xs : List (List AV)} (h : vRows H id v = some xs) : lenV G 0 v = some (.sc (.int .i64 (xs.length : Int)),G):=by
 unfold vRows at h
 split at h
 ·cases h; rfl
 ·cases h; rfl
 ·cases h; rfl
 ·rename_i j off l
  split at h
  ·rw [rowsOf_sl] at h
   split at h
   ·split at h
    ·rename_i hle
     cases h
     rw [lenV_sl]
     simp
     omega
    ·cases h
   ·cases h
  ·cases h
 ·cases h
section
variable {ft : FT} {sz b ins ov rot idx : Nat} {z : List AV}
theorem ins_nil {H : Heap} {v : AV} {xs : List (List AV)} (hx1 : vRows H H.next v = some xs) (ha : allSz sz xs = true) (hb : xs.length * b ≤ 140737488355328) {r : AV} {H' : Heap}
  (h : (xs.length = 0 ∧ r = .sc (.slice none 0 0) ∧ H' = H) ∨ (xs.length ≠ 0 ∧ r = .sl H.next 0 xs.length ∧ H' = H.put H.next (.row false sz xs))) :
  dCall ft (fun _ => none) 95 [.tmp 6] (insC sz b z ov rot) [.sc (.slice none 0 0),.sc (.int .i64 0),v] H fun r2 H2 => r2 = r ∧ H2 = H':=by
 have hlv:=fun G => lenV_v (G:=G) hx1
 have hrw : rowsOf (hx H []) v = some xs:=by rw [hx_nil]; exact vRows_rows hx1
 have s0:=fun G => sl_nil0 G sz (some 0) none (.inr rfl) (.inl rfl)
 unfold dCall
 rw [enterE_mkE _ _ (by simp),← hx_nil H]
 unfold insC
 rcases h with ⟨h0,rfl,rfl⟩ | ⟨h0,rfl,rfl⟩
 ·have d1 : ((xs.length : Int) == 0) = true:=by simp [h0]
  simp only [vx,↓vp,vz,Nat.reduceLT,Nat.reduceEqDiff,Nat.reduceLeDiff,Nat.reduceAdd,Nat.reduceSub,Nat.reduceMul,Int.reduceBEq,Int.reduceBNe,Int.reduceLT,Int.reduceLE,Int.reduceEq,reduceIte,reduceCtorEq,opI0,opI1,s0,hlv,d1]
  refine ⟨_,res_tmp (by decide),?_⟩
  simp only [↓vp,vz,Nat.reduceLT,Nat.reduceEqDiff,Nat.reduceLeDiff,Nat.reduceAdd,Nat.reduceSub,Nat.reduceMul,Int.reduceBEq,Int.reduceBNe,Int.reduceLT,Int.reduceLE,Int.reduceEq,reduceIte,reduceCtorEq]
  exact hx_nil _
 ·have d1 : ((xs.length : Int) == 0) = false:=beq_eq_false_iff_ne.2 (by omega)
  have h1 : (xs.length = 0) = False:=eq_false h0
  have h2 : (xs.length * b ≤ 140737488355328) = True:=eq_true hb
  simp only [vx,↓vp,vz,Nat.reduceLT,Nat.reduceEqDiff,Nat.reduceLeDiff,Nat.reduceAdd,Nat.reduceSub,Nat.reduceMul,Int.reduceBEq,Int.reduceBNe,Int.reduceLT,Int.reduceLE,Int.reduceEq,reduceIte,reduceCtorEq,opI0,opI1,s0,hlv,d1,hrw,AQ_nil,h1,h2,ha]
  refine ⟨_,res_tmp (by decide),?_⟩
  simp only [↓vp,vz,Nat.reduceLT,Nat.reduceEqDiff,Nat.reduceLeDiff,Nat.reduceAdd,Nat.reduceSub,Nat.reduceMul,Int.reduceBEq,Int.reduceBNe,Int.reduceLT,Int.reduceLE,Int.reduceEq,reduceIte,reduceCtorEq]
  have hp:=hx_put0 H [] (.row false sz xs)
  rw [hx_nil] at hp
  rw [hp]
  rfl
theorem insP_sl (hov : ft ov = some (.prim ovP)) (hz : z.length = sz) (b0 : 0 < b) : SlP ft 95 [.tmp 6] (insC sz b z ov rot) (insP sz b):=by
 intro args H r H' h
 unfold insP at h
 split at h
 rotate_left
 ·cases h
 rename_i s i v
 rcases cutP_some h with ⟨id,len,rows,xs,a,c,rfl,rfl,hc,hg,hvr,h1,hlen,hac,hcl,hxa,hb,rfl,rfl⟩ | ⟨xs,rfl,rfl,_,_,hvr,hxa,hb,h⟩
 ·have hac' : a = c:=by omega
  subst hac'
  refine .inl ⟨id,sz,0,rows,_,⟨0,len,by simp⟩,hg,rfl,rfl,fun rsF cn f1 f2 f3 => ?_⟩
  exact ins_walk hov hz (Heap.get_lt hg) f1 hlen f2 f3 hcl (vOk_of (Heap.get_lt hg) h1 hvr hxa) hb b0
 ·exact .inr (ins_nil hvr hxa hb h)
theorem repP_sl (hins : ft ins = some (.prim (insP sz b))) (hov : ft ov = some (.prim ovP)) (hz : z.length = sz) (b0 : 0 < b) : SlP ft 224 [.tmp 8] (repC sz b z ins ov rot idx) (repP sz b):=by
 have cdi : ∀ F C,calleeD ft (.fn (.func ins) F C) = none:=fun _ _ => calleeD_det (isDp_prim hins)
 intro args H r H' h
 unfold repP at h
 split at h
 rotate_left
 ·cases h
 rename_i s i j v
 have h0:=h
 rcases cutP_some h with ⟨id,len,rows,xs,a,c,rfl,rfl,rfl,hg,hvr,h1,hlen,hac,hcl,hxa,hb,rfl,rfl⟩ | ⟨xs,rfl,rfl,rfl,_,hvr,hxa,hb,h⟩
 ·refine .inl ⟨id,sz,0,rows,_,⟨0,len,by simp⟩,hg,rfl,rfl,fun rsF cn f1 f2 f3 => ?_⟩
  exact rep_walk hins hov hz (Heap.get_lt hg) f1 hlen f2 f3 hac hcl h1 hvr hxa hb b0
 ·have s0:=fun G => sl_nil0 G sz (some 0) (some 0) (.inr rfl) (.inr rfl)
  have hle : H.next ≤ H'.next:=by
   rcases h with ⟨_,_,rfl⟩ | ⟨_,_,rfl⟩
   ·exact Nat.le_refl _
   ·exact Heap.next_put_le _ _ _
  have hk : insP sz b [.sc (.slice none 0 0),.sc (.int .i64 0),v] (hx H []) = some (r,H'):=by rw [hx_nil]; exact h0
  have kk:=fun Q => k_prim hins (Q:=Q) hk (by rw [hx_nil]; exact hle)
  right
  unfold dCall
  rw [enterE_mkE _ _ (by simp),← hx_nil H]
  unfold repC
  simp only [vx,↓vp,vz,Nat.reduceLT,Nat.reduceEqDiff,Nat.reduceLeDiff,Nat.reduceAdd,Nat.reduceSub,Nat.reduceMul,Int.reduceBEq,Int.reduceBNe,Int.reduceLT,Int.reduceLE,Int.reduceEq,reduceIte,reduceCtorEq,opI0,opI1,s0,kk,cdi]
  rw [← hx_nil H']
  simp only [vx,↓vp,vz,Nat.reduceLT,Nat.reduceEqDiff,Nat.reduceLeDiff,Nat.reduceAdd,Nat.reduceSub,Nat.reduceMul,Int.reduceBEq,Int.reduceBNe,Int.reduceLT,Int.reduceLE,Int.reduceEq,reduceIte,reduceCtorEq]
  refine ⟨_,res_tmp (by decide),?_⟩
  simp only [↓vp,vz,Nat.reduceLT,Nat.reduceEqDiff,Nat.reduceLeDiff,Nat.reduceAdd,Nat.reduceSub,Nat.reduceMul,Int.reduceBEq,Int.reduceBNe,Int.reduceLT,Int.reduceLE,Int.reduceEq,reduceIte,reduceCtorEq]
end
end Go.VI
namespace Go.VI
section
variable {P : Program}
def FrzTo (r : AV) (r2 : AV) (H2 : Heap) : Prop:=∃ H3,frz FZ H2 r2 = some (r,H3)
def SlD (ft : FT) (n : Nat) (rs : List ARes) (body : ACode) (p : List AV → Option AV) : Prop:=∀ args r,p args = some r → dCall ft (fun _ => none) n rs body args Heap.empty (FrzTo r)
theorem slD_ok (hP : P.follows .mixedOrders = true) {ft : FT} (hft : FTOk P ft) {k : FuncId} {n : Nat} {rs : List ARes} {body : ACode} (hg : GoFn P k n rs body) {p : List AV → Option AV} (hp : SlD ft n rs body p) : PPrimOk P k p:=by
 intro args r h m F H w vs hI hl hv
 have hI0 : Inv P (fun _ => none) F Heap.empty w:=⟨hI.fz,fun _ _ h => (by cases h),fun _ _ _ h _ => (by cases h),fun _ _ _ _ h _ _ _ _ => (by cases h)⟩
 obtain ⟨h1,h2⟩:=dx_calls hP hft hg hI0 (κ:=fun _ => none) (fun id cn h => by cases h) (args:=args) (vs:=vs) ⟨hl,fun i c hc => .fz (hv i c hc)⟩ (hp args r h)
 refine .inl ⟨h1,h2.mono fun en w2 ⟨r1,Hc,⟨Hc2,hz2⟩,u,m',F',he,hr,hI2,hE2,hG⟩ => ?_⟩
 obtain ⟨F2,o2,hvf⟩:=(frz_sound FZ).1 Hc Hc2 F' r1 r u hz2 hI2 hr
 have hold : ∀ b,b < w.heap.size → w2.heap[b]? = w.heap[b]?:=fun b hb => hE2.blk b hb (fun _ _ h => by cases h)
 have hmn : ∀ id mb,m' id = some mb → w.heap.size ≤ mb.cb:=fun id mb h => by
  rcases hE2.mn id mb h with h | h | ⟨_,_,h,_⟩
  ·cases h
  ·exact h
  ·cases h
 have hF2 : ∀ b o v,F2 b o = some v → F b o = some v ∨ w.heap.size ≤ b:=fun b o v hv => by
  rcases o2.fr.new b o v hv with h | ⟨id,mb,h,rfl⟩
  ·rcases hE2.fn b o v h with h | h | ⟨_,_,h,_⟩
   ·exact .inl h
   ·exact .inr h
   ·cases h
  ·exact .inr (hmn id mb h)
 have hF12 : FLe F F2:=hE2.ff.trans o2.fr.le
 have hIm : Inv P m F2 H w2:=by
  refine hI.next (MLe.refl m) hF12 o2.inv.fz (fun id mb h => ?_) (fun id mb B h hB => ?_) hI.inj
  ·have:=hI.lt id mb h
   have:=hE2.sz
   omega
  ·have hlt:=(hI.lt id mb h).2
   refine .inl ⟨h,hB,hold _ hlt,fun o v hv => ?_⟩
   rcases hF2 _ o v hv with h | h
   ·exact h
   ·omega
 have hEm : Ext m F w m F2 w2:=⟨MLe.refl m,hF12,hE2.sz,hE2.tape,hE2.os,hE2.out,fun b hb _ => hold b hb,fun _ _ h => .inl h,fun b o v hv => by
  rcases hF2 b o v hv with h | h
  ·exact .inl h
  ·exact .inr (.inl h)⟩
 exact ⟨u,m,F2,he,.fz hvf,hIm,hEm,⟨fun _ _ h => .inl h,Nat.le_refl _⟩⟩
end
def cloD (sz b : Nat) (args : List AV) (H : Heap) (K : AV → Heap → Prop) : Prop :=
 match args with
 | [.lst []] => K (.sc (.slice none 0 0)) H ∧ K .emp (H.put H.next .dead)
 | [v] => ∃ xs,vRows H H.next v = some xs ∧ xs ≠ [] ∧ xs.length * b ≤ 140737488355328 ∧ allSz sz xs = true ∧ K (.sl (H.next + 1) 0 xs.length) (hx H [.dead,.row false sz xs])
 | _ => False
end Go.VI
namespace Go.VI
attribute [local congr] AW_congr OW_congr DW_congr NW_congr VW_congr GW_congr PW_congr KW_congr ite_congr' GV_congr CV_congr dx_congr dOW_congr dop_congr CP_congr AQ_congr AZ_congr callD_congr NQ_congr
def cloC (sz b : Nat) (z : List AV) : ACode:=(.seq (.region [⟨(some 2),(.mov (.const (.slice none 0 0))),none⟩] false []) (.seq (.seq (.region [⟨(some 3),(.mov (.tmp 0)),none⟩,⟨(some 4),(.isnil false 0 (.tmp 3)),none⟩] false []) (.cond (.tmp 4) (.seq (.region [⟨(some 2),(.mov (.const (.slice none 0 0))),none⟩] false []) .ret) .skip)) (.seq (.region [⟨(some 5),(.bslice sz z 0 []),none⟩,⟨(some 6),(.mov (.tmp 0)),none⟩,⟨(some 7),(.app sz b (.tmp 5) (.tmp 6)),none⟩,⟨(some 2),(.mov (.tmp 7)),none⟩] false []) .ret)))
theorem AQ_det {nid sz b : Nat} {H : Heap} {s : AV} {o : Option (List (List AV))} {K : AV → Heap → Prop} : AQ (fun _ => none) nid H sz b s o K ↔ PW (o.bind fun xs => appA nid H sz b s xs) K:=by
 unfold AQ
 rw [if_neg]
 unfold kOf
 split <;> simp
theorem NQ_det {H : Heap} {neg : Bool} {v : AV} {K : AV → Heap → Prop} {b : Bool} (h : isE v = false) (h2 : isnilA 0 v = some b) : NQ H neg 0 v K ↔ K (.sc (.bool (b != neg))) H:=by
 unfold NQ
 rw [h,h2]
 simp only [Bool.and_false,Bool.false_eq_true,if_false,Option.map_some]
 exact PW_some
theorem rows_hx {H : Heap} {v : AV} {xs : List (List AV)} (L : List Blk) (h : rowsOf H v = some xs) : rowsOf (hx H L) v = some xs:=by
 unfold rowsOf at h ⊢
 split at h
 ·exact h
 ·exact h
 ·split at h
  ·rename_i hg
   simp only [hx_get_old H L _ (Heap.get_lt hg),hg]
   exact h
  ·cases h
 ·cases h
section
variable {P : Program} {ft : FT} {sz b : Nat} {z : List AV}
theorem clo_dx {args : List AV} {H : Heap} {K : AV → Heap → Prop} (h : cloD sz b args H K) : dCall ft (fun _ => none) 8 [.tmp 2] (cloC sz b z) args H K:=by
 unfold cloD at h
 split at h
 ·obtain ⟨h1,h2⟩:=h
  unfold dCall
  rw [enterE_mkE _ _ (by simp),← hx_nil H]
  rw [← hx_nil H] at h1
  unfold cloC
  have hx1 : H.put H.next .dead = hx H [.dead]:=by
   have:=hx_put0 H [] .dead
   rw [hx_nil] at this
   rw [this]
   rfl
  rw [hx1] at h2
  simp only [vx,↓vp,vz,Nat.reduceLT,Nat.reduceEqDiff,Nat.reduceLeDiff,Nat.reduceAdd,Nat.reduceSub,Nat.reduceMul,Int.reduceBEq,Int.reduceBNe,Int.reduceLT,Int.reduceLE,Int.reduceEq,reduceIte,reduceCtorEq,AQ_det,appA_emp]
  refine ⟨⟨_,res_tmp (by decide),?_⟩,⟨_,res_tmp (by decide),?_⟩⟩
  ·simp only [↓vp,vz,Nat.reduceLT,Nat.reduceEqDiff,Nat.reduceLeDiff,Nat.reduceAdd,Nat.reduceSub,Nat.reduceMul,Int.reduceBEq,Int.reduceBNe,Int.reduceLT,Int.reduceLE,Int.reduceEq,reduceIte,reduceCtorEq]
   exact h1
  ·simp only [↓vp,vz,Nat.reduceLT,Nat.reduceEqDiff,Nat.reduceLeDiff,Nat.reduceAdd,Nat.reduceSub,Nat.reduceMul,Int.reduceBEq,Int.reduceBNe,Int.reduceLT,Int.reduceLE,Int.reduceEq,reduceIte,reduceCtorEq]
   exact h2
 ·rename_i v _
  obtain ⟨xs,hxs,h0,hb,ha,hK⟩:=h
  unfold dCall
  rw [enterE_mkE _ _ (by simp),← hx_nil H]
  unfold cloC
  have hv : isE v = false ∧ isnilA 0 v = some false:=by
   unfold vRows at hxs
   split at hxs
   ·cases hxs; exact absurd rfl h0
   ·cases hxs; exact absurd rfl h0
   ·exact ⟨rfl,rfl⟩
   ·exact ⟨rfl,rfl⟩
   ·cases hxs
  have nq:=fun H' K' => NQ_det (H:=H') (neg:=false) (K:=K') hv.1 hv.2
  have hr : ∀ L,rowsOf (hx H L) v = some xs:=fun L => rows_hx L (vRows_rows hxs)
  have hl : ¬ xs.length = 0:=fun e => h0 (List.eq_nil_of_length_eq_zero e)
  have d1 : (xs.length = 0) = False:=eq_false hl
  have d2 : (xs.length * b ≤ 140737488355328) = True:=eq_true hb
  simp only [vx,↓vp,vz,Nat.reduceLT,Nat.reduceEqDiff,Nat.reduceLeDiff,Nat.reduceAdd,Nat.reduceSub,Nat.reduceMul,Int.reduceBEq,Int.reduceBNe,Int.reduceLT,Int.reduceLE,Int.reduceEq,reduceIte,reduceCtorEq,AQ_det,appA_emp,nq,hr,ha,d1,d2]
  refine ⟨_,res_tmp (by decide),?_⟩
  simp only [↓vp,vz,Nat.reduceLT,Nat.reduceEqDiff,Nat.reduceLeDiff,Nat.reduceAdd,Nat.reduceSub,Nat.reduceMul,Int.reduceBEq,Int.reduceBNe,Int.reduceLT,Int.reduceLE,Int.reduceEq,reduceIte,reduceCtorEq]
  exact hK
 ·exact h.elim
theorem ft0_ok : FTOk P (fun _ => none):=fun k d h => by cases h
def cloP (sz b : Nat) (args : List AV) (H : Heap) : Option (AV × Heap) :=
 match args with
 | [.sc (.slice none 0 0)] => some (.sc (.slice none 0 0),H)
 | [.lst []] => some (.emp,H.pad 1)
 | [v] => (vRows H H.next v).bind fun xs => if xs ≠ [] ∧ xs.length * b ≤ 140737488355328 ∧ allSz sz xs = true then some (.sl (H.next + 1) 0 xs.length,hx H [.dead,.row false sz xs]) else none
 | _ => none
theorem cloP_ok (hP : P.follows .mixedOrders = true) {k : FuncId} (hg : GoFn P k 8 [.tmp 2] (cloC sz b z)) : PrimOk P k (cloP sz b):=by
 intro args H H' r h m F w vs hI hv
 have go : ∀ K,dCall (fun _ => none) (fun _ => none) 8 [.tmp 2] (cloC sz b z) args H K → (callFunc k vs).run P w = .ok (.enter k vs) w ∧ Calls P k vs w fun en w' => ∃ r H',K r H' ∧ CallPost P m F H w r H' en w' :=
  fun K hK => dx_calls hP ft0_ok hg hI (κ:=fun _ => none) (fun id cn h => by cases h) hv hK
 unfold cloP at h
 split at h
 ·cases h
  obtain ⟨h1,h2⟩:=go (fun r2 H2 => r2 = .sc (.slice none 0 0) ∧ H2 = H) (by
   unfold dCall
   rw [enterE_mkE _ _ (by simp),← hx_nil H]
   unfold cloC
   have nq:=fun H' K' => NQ_det (H:=H') (neg:=false) (K:=K') (v:=.sc (.slice none 0 0)) rfl rfl
   simp only [vx,↓vp,vz,Nat.reduceLT,Nat.reduceEqDiff,Nat.reduceLeDiff,Nat.reduceAdd,Nat.reduceSub,Nat.reduceMul,Int.reduceBEq,Int.reduceBNe,Int.reduceLT,Int.reduceLE,Int.reduceEq,reduceIte,reduceCtorEq,AQ_det,nq]
   refine ⟨_,res_tmp (by decide),?_⟩
   simp only [↓vp,vz,Nat.reduceLT,Nat.reduceEqDiff,Nat.reduceLeDiff,Nat.reduceAdd,Nat.reduceSub,Nat.reduceMul,Int.reduceBEq,Int.reduceBNe,Int.reduceLT,Int.reduceLE,Int.reduceEq,reduceIte,reduceCtorEq])
  refine .inl ⟨h1,h2.mono fun en w' ⟨r2,H2,⟨h3,h4⟩,hc⟩ => ?_⟩
  subst h3 h4
  exact hc
 ·cases h
  obtain ⟨h1,h2⟩:=go (fun r2 H2 => (r2 = .sc (.slice none 0 0) ∧ H2 = H) ∨ (r2 = .emp ∧ H2 = H.put H.next .dead)) (clo_dx ⟨.inl ⟨rfl,rfl⟩,.inr ⟨rfl,rfl⟩⟩)
  refine .inl ⟨h1,h2.mono fun en w' ⟨r2,H2,hK,u,m',F',he,q1,q2,q3,q4⟩ => ?_⟩
  rcases hK with ⟨rfl,rfl⟩ | ⟨rfl,rfl⟩
  ·obtain ⟨rfl,_⟩:=vr_sc q1
   exact ⟨_,m',F',he,.fz (.emp none),q2.pad 1,q3,⟨q4.dom,by rw [Heap.next_pad]; omega⟩⟩
  ·have e1 : H.put H.next .dead = H.pad 1:=by
    have:=hx_put0 H [] .dead
    rw [hx_nil] at this
    rw [this]
    simp [hx,Heap.pad]
   rw [e1] at q2 q4
   exact ⟨_,m',F',he,q1,q2,q3,q4⟩
 ·rename_i v _ _
  simp only [Option.bind_eq_some_iff] at h
  obtain ⟨xs,hxs,h⟩:=h
  split at h
  rotate_left
  ·cases h
  rename_i hc
  cases h
  obtain ⟨h1,h2⟩:=go (fun r2 H2 => r2 = .sl (H.next + 1) 0 xs.length ∧ H2 = hx H [.dead,.row false sz xs]) (clo_dx (by
   unfold cloD
   split
   ·rename_i e; cases e; cases hxs; exact absurd rfl hc.1
   ·rename_i e; cases e; exact ⟨xs,hxs,hc.1,hc.2.1,hc.2.2,rfl,rfl⟩
   ·rename_i e; exact e _ rfl))
  exact .inl ⟨h1,h2.mono fun en w' ⟨r2,H2,⟨h3,h4⟩,hc⟩ => by rw [← h3,← h4]; exact hc⟩
 ·cases h
end
end Go.VI
namespace Go.VI
def Sub (ft ft' : FT) : Prop:=∀ k d,ft k = some d → ft' k = some d
theorem pureV_sub {ft ft' : FT} (hs : Sub ft ft') {f : AV} {args : List AV} {ex : EX} {H : Heap} {r : AV × Heap} (h : callV ft ex f args H = some r) : pureV ft' f args = pureV ft f args:=by
 unfold callV at h
 unfold pureV
 split at h
 ·rename_i k first caps
  have : isPure ft' k = isPure ft k:=by
   unfold isPure
   cases hk : ft k with
   | none => unfold callF at h; rw [hk] at h; cases h
   | some d => rw [hs k d hk]
  simp only [this]
 ·rfl
 ·cases h
theorem isExt_sub {ft ft' : FT} (hs : Sub ft ft') {f : AV} {args : List AV} {ex : EX} {H : Heap} {r : AV × Heap} (h : callV ft ex f args H = some r) (as' : List AV) : pureV ft' (.tup [f]) as' = pureV ft (.tup [f]) as':=by
 unfold callV at h
 split at h
 ·rename_i k first caps
  have : isExt ft' k = isExt ft k:=by
   unfold isExt
   cases hk : ft k with
   | none => unfold callF at h; rw [hk] at h; cases h
   | some d => rw [hs k d hk]
  simp only [pureV,this]
 ·rfl
 ·cases h
theorem isGo_sub {ft ft' : FT} (hs : Sub ft ft') {f : AV} (h : isGo ft f = true) : isGo ft' f = true:=by
 unfold isGo at h ⊢
 split at h
 ·rename_i k first caps
  cases hk : ft k with
  | none => rw [hk] at h; cases h
  | some d => rw [hs k d hk]; rw [hk] at h; exact h
 ·cases h
theorem runs_le {cf cf' : CF} (h : CLe cf cf') {pv pv' : AV → List AV → FP} (hp : ∀ f args H r,cf f args H = some r → pv' f args = pv f args ∧ pv' (.tup [f]) args = pv (.tup [f]) args) : ∀ (os : List AOper) (nid : Nat) (e : Env) (H : Heap) (r : List FQ × Env × Heap),runs cf pv nid os e H = some r → runs cf' pv' nid os e H = some r
 | [],nid,e,H,r,hr => hr
 | o :: os,nid,e,H,r,hr => by
  simp only [runs,Option.bind_eq_some_iff,Option.map_eq_some_iff] at hr ⊢
  obtain ⟨p,hp1,q,hq,hr⟩:=hr
  refine ⟨p,oper_mono h hp1,q,runs_le h hp os _ _ _ _ hq,?_⟩
  have : fqO pv' nid e o H p.2 = fqO pv nid e o H p.2:=by
   by_cases hw : wantA e o.guard = true
   ·obtain ⟨d,op,g⟩:=o
    cases op with
    | call f args =>
     unfold oper at hp1
     split at hp1
     ·rw [Option.map_eq_some_iff] at hp1
      obtain ⟨r1,hr1,_⟩:=hp1
      obtain ⟨a1,a2⟩:=hp _ _ _ _ hr1
      simp only [fqO,fpO,fpS,extO,a1,a2]
     ·cases hp1
    | _ => rfl
   ·rw [fqO_some (show fpO pv' nid e o = some (false,[]) by unfold fpO; rw [if_neg hw]),fqO_some (show fpO pv nid e o = some (false,[]) by unfold fpO; rw [if_neg hw])]
  rw [this]
  exact hr
theorem drawn_le {cf cf' : CF} (h : CLe cf cf') {pv pv' : AV → List AV → FP} (hp : ∀ f args H r,cf f args H = some r → pv' f args = pv f args ∧ pv' (.tup [f]) args = pv (.tup [f]) args) {os : List AOper} {prs : List (Nat × Nat)} {e : Env} {H : Heap} {r : Env × Heap} (hr : drawn cf pv os prs e H = some r) : drawn cf' pv' os prs e H = some r:=by
 simp only [drawn,Option.bind_eq_some_iff] at hr ⊢
 obtain ⟨p,hp1,hr⟩:=hr
 exact ⟨p,runs_le h hp _ _ _ _ _ hp1,hr⟩
theorem callF_sub {ft ft' : FT} (hs : Sub ft ft') {ex ex' : EX} (h : ELe ex ex') {k : FuncId} {args : List AV} {H : Heap} {r : AV × Heap} (hr : callF ft ex k args H = some r) : callF ft' ex' k args H = some r:=by
 refine callF_mono h ?_
 unfold callF at hr ⊢
 cases hk : ft k with
 | none => rw [hk] at hr; cases hr
 | some d => rw [hs k d hk]; rw [hk] at hr; exact hr
theorem callV_sub {ft ft' : FT} (hs : Sub ft ft') {ex ex' : EX} (h : ELe ex ex') : CLe (callV ft ex) (callV ft' ex'):=by
 intro f args H r hr
 unfold callV at hr ⊢
 split at hr
 ·exact callF_sub hs h hr
 ·exact roundA_mono h hr
 ·cases hr
theorem exec_sub {ft ft' : FT} (hs : Sub ft ft') : ∀ n,ELe (exec ft n) (exec ft' n):=by
 intro n
 induction n with
 | zero => intro c e H r h; simp [exec] at h
 | succ n ih =>
  intro c e H r h
  rw [exec.eq_def] at h ⊢
  simp only at h ⊢
  cases c with
  | skip => exact h
  | exit id => exact h
  | ret => exact h
  | stop => exact h
  | rangeF f ps asg body =>
   simp only at h ⊢
   split at h
   rotate_left
   ·cases h
   rename_i hg
   rw [if_pos (isGo_sub hs hg)]
   simp only [Option.bind_eq_some_iff] at h ⊢
   obtain ⟨p,hp,hr⟩:=h
   exact ⟨p,callV_sub hs ih _ _ _ _ hp,hr⟩
  | region os draw prs =>
   simp only at h ⊢
   split at h
   ·rename_i hd
    rw [if_pos hd]
    simp only [Option.map_eq_some_iff] at h ⊢
    obtain ⟨p,hp,hr⟩:=h
    exact ⟨p,drawn_le (callV_sub hs ih) (fun f args H r h => ⟨pureV_sub hs h,isExt_sub hs h _⟩) hp,hr⟩
   ·rename_i hd
    rw [if_neg hd]
    simp only [Option.map_eq_some_iff] at h ⊢
    obtain ⟨p,hp,hr⟩:=h
    exact ⟨p,opers_mono (callV_sub hs ih) _ _ _ _ hp,hr⟩
  | seq a b =>
   simp only [Option.bind_eq_some_iff] at h ⊢
   obtain ⟨⟨x,e1,H1⟩,hp,hr⟩:=h
   refine ⟨(x,e1,H1),ih _ _ _ _ hp,?_⟩
   cases x with
   | normal => exact ih _ _ _ _ hr
   | exit id => exact hr
   | ret => exact hr
  | cond o a b =>
   simp only [Option.bind_eq_some_iff] at h ⊢
   obtain ⟨t,ht,hr⟩:=h
   refine ⟨t,ht,?_⟩
   cases t with
   | true => exact ih _ _ _ _ hr
   | false => exact ih _ _ _ _ hr
  | block id c =>
   simp only [Option.map_eq_some_iff] at h ⊢
   obtain ⟨p,hp,hr⟩:=h
   exact ⟨p,ih _ _ _ _ hp,hr⟩
  | loop c =>
   simp only [Option.bind_eq_some_iff] at h ⊢
   obtain ⟨⟨x,e1,H1⟩,hp,hr⟩:=h
   refine ⟨(x,e1,H1),ih _ _ _ _ hp,?_⟩
   cases x with
   | normal => exact ih _ _ _ _ hr
   | exit id => exact hr
   | ret => exact hr
theorem callL_sub {ft ft' : FT} (hs : Sub ft ft') {f : AV} {args : List AV} {H : Heap} {r : AV × Heap} (h : callL ft f args H = some r) : callL ft' f args H = some r:=by
 obtain ⟨n,hn⟩:=callL_some.1 h
 exact callL_some.2 ⟨n,callV_sub hs (exec_sub hs n) _ _ _ _ hn⟩
noncomputable def goP (ft : FT) (k : FuncId) (args : List AV) : Option AV:=if closedL args = true then (callL ft (.fn (.func k) [] []) args Heap.empty).map (·.1) else none
theorem goP_ok {P : Program} (hP : P.follows .mixedOrders = true) {ft : FT} (hft : FTOk P ft) {k : FuncId} (hk : ∃ n rs body,ft k = some (.go true n rs body)) : PPrimOk P k (goP ft k):=by
 intro args r h m F H w vs hI hl hv
 unfold goP at h
 split at h
 rotate_left
 ·cases h
 rename_i hc
 simp only [Option.map_eq_some_iff] at h
 obtain ⟨⟨r',H'⟩,h,rfl⟩:=h
 obtain ⟨n,hn⟩:=callL_some.1 h
 obtain ⟨nt,rs,body,hk⟩:=hk
 have hpv : pureV ft (.fn (.func k) [] []) args = some (false,[]):=by
  unfold pureV isPure
  simp only [List.nil_append,List.append_nil,hk,if_true,sids_closed hc]
  rfl
 have hcp:=(execs_next (ft:=ft) n).2
 have h3 : callV ft (exec ft n) (.fn (.func k) [] []) args H = some (r',H):=by
  obtain ⟨H3,h3,_,h4⟩:=hcp.1 _ _ _ _ _ _ _ hpv hn H (fun _ h => by cases h)
  obtain ⟨_,rfl⟩:=h4 rfl
  exact h3
 have h4 : callF ft (exec ft n) k args H = some (r',H):=by simpa [callV] using h3
 have hcf : CfOk P (callV ft (exec ft n)):=calls_of hft (fun c ac hc e e' H H' x h ro hro b0 m F w a hs hb0 hd => (exec_sound hP hft n c ac hc e e' H H' x h ro hro b0 m F w a hs hb0 hd).1)
 rcases hcf _ _ H H r' h3 m F w (.func (.func k) #[] #[]) vs hI (.fz (.fn rfl rfl (by simp) (by simp))) ⟨hl,fun i c hc => .fz (hv i c hc)⟩ with ⟨k',f',c',he,hcase⟩ | ⟨_,_,_,_,_,he,_⟩
 rotate_left
 ·cases he
 cases he
 simp only [Array.empty_append,Array.append_empty] at hcase
 exact hcase
end Go.VI
namespace Go.VI
def cloF (sz b : Nat) (args : List AV) : Option AV :=
 match args with
 | [.lst []] => some (.lst [])
 | [.lst ((c :: cs) :: r)] => if (r.length + 1) * b ≤ 140737488355328 ∧ allSz sz ((c :: cs) :: r) = true then some (.lst ((c :: cs) :: r)) else none
 | _ => none
theorem cloF_sl {ft : FT} {sz b : Nat} {z : List AV} : SlD ft 8 [.tmp 2] (cloC sz b z) (cloF sz b):=by
 intro args r h
 unfold cloF at h
 split at h
 ·cases h
  exact clo_dx (sz:=sz) (b:=b) ⟨⟨_,rfl⟩,⟨_,rfl⟩⟩
 ·split at h
  rotate_left
  ·cases h
  rename_i c cs rr hc
  cases h
  refine clo_dx (sz:=sz) (b:=b) ⟨_,rfl,by simp,by simpa using hc.1,hc.2,?_⟩
  have e:=frz_sl 23 (hx Heap.empty [.dead,.row false sz ((c :: cs) :: rr)]) 1 0 (List.length ((c :: cs) :: rr))
  have hg : (hx Heap.empty [.dead,.row false sz ((c :: cs) :: rr)]).get 1 = some (.row false sz ((c :: cs) :: rr)):=rfl
  rw [hg] at e
  simp only [Nat.zero_add,Nat.le_refl,if_true,List.drop_zero,List.take_length] at e
  exact ⟨_,e⟩
 ·cases h
theorem cloF_ok {P : Program} (hP : P.follows .mixedOrders = true) {k : FuncId} {sz b : Nat} {z : List AV} (hg : GoFn P k 8 [.tmp 2] (cloC sz b z)) : PPrimOk P k (cloF sz b):=slD_ok hP ft0_ok hg cloF_sl
end Go.VI
namespace Go.VI
abbrev SR:={ p : Int × Int // 0 ≤ p.1 ∧ p.1 ≤ 1000000 }
instance srInh : Inhabited SR:=⟨⟨(0,0),by decide⟩⟩
def srC (x : SR) : List AV:=[.sc (.int .i64 x.1.1),.sc (.int .i64 x.1.2)]
def srCf (x y : SR) : Int:=x.1.1 - y.1.1
def srLt (x y : SR) : Bool:=decide (srCf x y < 0)
def srOf : List AV → Option SR
 | [.sc (.int .i64 a),.sc (.int .i64 b)] => if h : 0 ≤ a ∧ a ≤ 1000000 then some ⟨(a,b),h⟩ else none
 | _ => none
theorem srOf_some {r : List AV} {x : SR} (h : srOf r = some x) : r = srC x:=by
 unfold srOf at h
 split at h
 ·split at h
  ·cases h; rfl
  ·cases h
 ·cases h
def srsOf : List (List AV) → Option (List SR)
 | [] => some []
 | r :: rs => (srOf r).bind fun x => (srsOf rs).map fun l => x :: l
theorem srsOf_some : ∀ {rs : List (List AV)} {l : List SR},srsOf rs = some l → rs = l.map srC
 | [],l,h => by cases h; rfl
 | r :: rs,l,h => by
  simp only [srsOf,Option.bind_eq_some_iff,Option.map_eq_some_iff] at h
  obtain ⟨x,hx,l',hl,rfl⟩:=h
  rw [srOf_some hx,srsOf_some hl]
  rfl
theorem srOf_C (x : SR) : srOf (srC x) = some x:=by
 unfold srOf srC
 simp [x.2]
theorem srsOf_map : ∀ l : List SR,srsOf (l.map srC) = some l
 | [] => rfl
 | x :: l => by simp only [List.map_cons,srsOf,srOf_C,srsOf_map l,Option.bind_some,Option.map_some]
noncomputable def sortL (l : List SR) : List SR:=(Sort.pdq srLt l.toArray 0 l.length (Lib.bitLen l.length) true true).toList
theorem srLt_t {x y : SR} : srLt x y = true ↔ x.1.1 < y.1.1:=by
 unfold srLt srCf
 rw [decide_eq_true_iff]
 omega
theorem srLt_f {x y : SR} : srLt x y = false ↔ y.1.1 ≤ x.1.1:=by
 unfold srLt srCf
 rw [decide_eq_false_iff_not]
 omega
theorem srSWO : Sort.SWO srLt where
 irrefl x:=srLt_f.2 (Int.le_refl _)
 trans x y z h1 h2:=srLt_t.2 (Int.lt_trans (srLt_t.1 h1) (srLt_t.1 h2))
 ntrans x y z h1 h2:=srLt_f.2 (Int.le_trans (srLt_f.1 h2) (srLt_f.1 h1))
theorem sortL_len (l : List SR) : (sortL l).length = l.length:=by
 have h:=(Sort.pdq_sorts srLt srSWO l.toArray 0 l.length (Lib.bitLen l.length) true true (Nat.zero_le _) (by simp) (Or.inl rfl)).1.1
 simpa [sortL] using h
theorem sortL_perm (l : List SR) : (sortL l).Perm l:=by
 have h:=(Sort.pdq_sorts srLt srSWO l.toArray 0 l.length (Lib.bitLen l.length) true true (Nat.zero_le _) (by simp) (Or.inl rfl)).1
 have h3:=h.2.2
 have hs:=h.1
 simp at hs
 have e1 : (Sort.pdq srLt l.toArray 0 l.length (Lib.bitLen l.length) true true).extract 0 l.length = Sort.pdq srLt l.toArray 0 l.length (Lib.bitLen l.length) true true:=by
  have : ∀ (a : Array SR),a.size = l.length → a.extract 0 l.length = a:=fun a ha => by rw [← ha]; simp
  exact this _ hs
 rw [e1] at h3
 simpa [sortL] using h3
theorem sortL_sorted (l : List SR) : ∀ i j (hi : i < j) (hj : j < (sortL l).length),((sortL l)[i]'(by omega)).1.1 ≤ (sortL l)[j].1.1:=by
 intro i j hi hj
 have h:=(Sort.pdq_sorts srLt srSWO l.toArray 0 l.length (Lib.bitLen l.length) true true (Nat.zero_le _) (by simp) (Or.inl rfl)).2
 have hl:=sortL_len l
 have:=h i j (Nat.zero_le _) hi (by omega)
 rw [srLt_f] at this
 have hs : (Sort.pdq srLt l.toArray 0 l.length (Lib.bitLen l.length) true true).size = (sortL l).length:=by simp [sortL]
 have gi : ∀ k (hk : k < (sortL l).length),(Sort.pdq srLt l.toArray 0 l.length (Lib.bitLen l.length) true true)[k]! = (sortL l)[k]:=fun k hk => by
  rw [getElem!_pos _ k (by omega)]
  simp [sortL]
 rw [gi i (by omega),gi j hj] at this
 exact this
noncomputable def sortP (g : FuncId) (args : List AV) (H : Heap) : Option (AV × Heap) :=
 match args with
 | [.sl id 0 len,.fn (.func k) [] []] => if k = g then match H.get id with
   | some (.row false 2 rows) => if len = rows.length ∧ len ≤ 1000000 then (srsOf rows).map fun l => (.tup [],H.set id (.row false 2 ((sortL l).map srC))) else none
   | _ => none
  else none
 | [.sc (.slice none 0 0),.fn (.func k) [] []] => if k = g then some (.tup [],H) else none
 | [.emp,.fn (.func k) [] []] => if k = g then some (.tup [],H) else none
 | _ => none
end Go.VI
namespace Go.VI
theorem sids_emp : sids [.emp] = some []:=rfl
theorem lenV_emp (H : Heap) : lenV H 0 .emp = some (.sc (.int .i64 (0 : Int)),H):=rfl
theorem frz_emp (n : Nat) (H : Heap) : frz (n + 1) H .emp = some (.lst [],H):=rfl
theorem cells_emp : AV.cells .emp = [.emp]:=rfl
theorem one_emp : AV.one .emp = true:=rfl
set_option linter.defProp false in
def vemp:=And.intro @sids_emp <| And.intro @lenV_emp <| And.intro @frz_emp <| And.intro @cells_emp <| And.intro @one_emp @appA_emp
def ecloP (sz b : Nat) (args : List AV) (n : Nat) : Option (AV × List Blk) :=
 match args with
 | [.sc (.slice none 0 0)] => some (.sc (.slice none 0 0),[])
 | [.lst []] => some (.emp,[.dead])
 | [.lst ((c :: cs) :: r)] => if ((c :: cs) :: r).length * b ≤ 140737488355328 ∧ allSz sz ((c :: cs) :: r) = true then some (.sl (n + 1) 0 ((c :: cs) :: r).length,[.dead,.row false sz ((c :: cs) :: r)]) else none
 | _ => none
theorem ecloP_ok {P : Program} (hP : P.follows .mixedOrders = true) {k : FuncId} {sz b : Nat} {z : List AV} (hg : GoFn P k 8 [.tmp 2] (cloC sz b z)) : PrimOk P k fun args H => (ecloP sz b args H.next).map fun (r,L) => (r,⟨H.bs ++ L⟩):=by
 intro args H H' r h
 refine cloP_ok hP hg args H H' r ?_
 simp only [Option.map_eq_some_iff,Prod.mk.injEq] at h
 obtain ⟨⟨r1,L⟩,h1,rfl,rfl⟩:=h
 unfold ecloP at h1
 split at h1
 ·cases h1
  show some (_,H) = some (_,_)
  simp
 ·cases h1
  rfl
 ·rename_i c cs r
  split at h1
  rotate_left
  ·cases h1
  rename_i hc
  cases h1
  unfold cloP
  show ((vRows H H.next (.lst ((c :: cs) :: r))).bind _) = _
  rw [show vRows H H.next (.lst ((c :: cs) :: r)) = some ((c :: cs) :: r) from rfl,Option.bind_some,if_pos ⟨by simp,hc⟩]
  rfl
 ·cases h1
def roP (p : List AV → Option AV) (args : List AV) (H : Heap) : Option (AV × Heap) :=
 (frzCells H args).bind fun q => (p q.1).bind fun r => match r with
  | .sc v => some (.sc v,H)
  | _ => none
theorem Inv.same {P : Program} {m : Mp} {F : Fz} {H : Heap} {w w' : World} (h : Inv P m F H w) (hs : w.heap.size ≤ w'.heap.size) (hb : ∀ b,b < w.heap.size → w'.heap[b]? = w.heap[b]?) : Inv P m F H w' :=
 h.next (MLe.refl m) (FLe.refl F) (fun b o v hv => by
  rw [cell_of_heap (hb b (h.fz_lt hv))]
  exact h.fz b o v hv) (fun j mj hj => ⟨(h.lt j mj hj).1,by have:=(h.lt j mj hj).2; omega⟩)
  (fun j mj B hj hB => .inl ⟨hj,hB,hb _ (h.lt j mj hj).2,fun _ _ hv => hv⟩) h.inj
theorem roP_ok {P : Program} {k : FuncId} {p : List AV → Option AV} (hp : PPrimOk P k p) : PrimOk P k (roP p):=by
 intro args H H' r h m F w vs hI hv
 unfold roP at h
 simp only [Option.bind_eq_some_iff] at h
 obtain ⟨⟨cs,H1⟩,h1,r0,h2,h⟩:=h
 have hr : ∃ v,r0 = .sc v ∧ r = .sc v ∧ H' = H:=by
  split at h
  ·cases h; exact ⟨_,rfl,rfl,rfl⟩
  ·cases h
 obtain ⟨v,rfl,rfl,rfl⟩:=hr
 obtain ⟨F1,o1,hf⟩:=(frz_sound FZ).2 H' H1 F args cs (fun i => vs.getD i undef) h1 hI (fun i c hc => hv.val i c hc)
 have hl : cs.length = args.length:=(frzL_one h1).1
 have hI0 : Inv P (fun _ => none) F1 Heap.empty w :=
  by
  refine ⟨o1.inv.fz,?_,?_,?_⟩
  ·intro id mb h; cases h
  ·intro id mb B h; cases h
  ·intro i j mi mj h; cases h
 have fin : ∀ en w',CallPost P (fun _ => none) F1 Heap.empty w (.sc v) Heap.empty en w' → CallPost P m F H' w (.sc v) H' en w':=by
  intro en w' ⟨u,m',F',he,q1,q2,q3,q4⟩
  obtain ⟨rfl,hs⟩:=vr_sc q1
  have hb : ∀ b,b < w.heap.size → w'.heap[b]? = w.heap[b]?:=fun b hb => q3.blk b hb (by intro id mb h; cases h)
  exact ⟨_,m,F,he,.fz (.sc hs),hI.same q3.sz hb,⟨MLe.refl m,FLe.refl F,q3.sz,q3.tape,q3.os,q3.out,fun b h _ => hb b h,fun _ _ h => .inl h,fun _ _ _ h => .inl h⟩,Grew.refl m H'⟩
 rcases hp cs (.sc v) h2 (fun _ => none) F1 Heap.empty w vs hI0 (by rw [hl]; exact hv.len) hf with ⟨c1,c2⟩ | ⟨u,w',c1,c2⟩
 ·exact .inl ⟨c1,c2.mono fun en w' hc => fin en w' hc⟩
 ·exact .inr ⟨u,w',c1,fin _ _ c2⟩
end Go.VI
namespace Go.VI
def c16L0 : ACode:=(.seq (.region [⟨(some 84),(.bin .lss 3 (.tmp 83) (.tmp 82)),none⟩] false []) (.seq (.cond (.tmp 84) .skip (.exit 0)) (.seq (.block 1 (.seq (.region [⟨(some 85),(.iaddr none 5 (.tmp 81) (.tmp 83)),none⟩,⟨(some 86),(.load true 5 (.tmp 85)),none⟩,⟨(some 12),(.alloc [(.sc (.int .i64 0)),(.sc (.int .i64 0)),(.sc (.int .i64 0)),(.sc (.int .i64 0)),(.sc (.int .i64 0))]),none⟩,⟨none,(.store 5 (.tmp 12) (.tmp 86)),none⟩] false []) (.seq (.seq (.region [⟨(some 87),(.faddr 0 (.tmp 12)),none⟩,⟨(some 88),(.load false 1 (.tmp 87)),none⟩] false []) (.block 2 (.seq (.region [⟨(some 90),(.bin .eql 3 (.tmp 88) (.const (.int .i64 0))),none⟩,⟨(some 89),(.mov (.tmp 90)),none⟩] false []) (.cond (.tmp 89) (.seq (.region [⟨(some 92),(.load true 2 (.tmp 9)),none⟩,⟨(some 93),(.faddr 2 (.tmp 12)),none⟩,⟨(some 94),(.load false 1 (.tmp 93)),none⟩,⟨(some 95),(.call (.func 68) [(.tmp 92),(.tmp 94)]),none⟩,⟨(some 91),(.mov (.tmp 95)),none⟩,⟨(some 96),(.ext (.tmp 91) 0),none⟩,⟨(some 97),(.ext (.tmp 91) 1),none⟩,⟨(some 98),(.ext (.tmp 91) 2),none⟩,⟨(some 13),(.alloc [(.sc (.slice none 0 0)),(.sc (.int .i64 0))]),none⟩,⟨none,(.store 2 (.tmp 13) (.tmp 96)),none⟩,⟨(some 14),(.mov (.tmp 97)),none⟩,⟨(some 15),(.mov (.tmp 98)),none⟩] false []) (.seq (.region [⟨(some 100),(.mov (.tmp 7)),none⟩,⟨(some 101),(.faddr 2 (.tmp 12)),none⟩,⟨(some 102),(.load false 1 (.tmp 101)),none⟩,⟨(some 103),(.call (.func 61) [(.tmp 100),(.tmp 102)]),none⟩,⟨(some 99),(.mov (.tmp 103)),none⟩,⟨(some 104),(.ext (.tmp 99) 0),none⟩,⟨(some 105),(.ext (.tmp 99) 1),none⟩,⟨(some 16),(.mov (.tmp 104)),none⟩,⟨(some 17),(.mov (.tmp 105)),none⟩] false []) (.seq (.region [⟨(some 106),(.load true 2 (.tmp 13)),none⟩,⟨none,(.store 2 (.tmp 9) (.tmp 106)),none⟩] false []) (.seq (.region [⟨(some 107),(.mov (.tmp 16)),none⟩,⟨(some 108),(.mov (.tmp 14)),none⟩,⟨(some 109),(.bin .neq 3 (.tmp 107) (.tmp 108)),none⟩,⟨(some 110),(.mov (.tmp 109)),none⟩,⟨(some 111),(.mov (.tmp 15)),(some ((some 110),false))⟩,⟨(some 112),(.mov (.tmp 17)),(some ((some 110),false))⟩,⟨(some 113),(.bin .neq 95 (.tmp 111) (.tmp 112)),(some ((some 110),false))⟩,⟨(some 114),(.pick (.tmp 110) (.const (.bool true)) (.tmp 113)),none⟩] false []) (.cond (.tmp 114) (.seq (.region [⟨(some 6),(.mov (.const (.bool false))),none⟩] false []) .ret) .skip))))) (.seq (.region [⟨(some 116),(.bin .eql 3 (.tmp 88) (.const (.int .i64 1))),none⟩,⟨(some 115),(.mov (.tmp 116)),none⟩] false []) (.cond (.tmp 115) (.seq (.region [⟨(some 118),(.load true 2 (.tmp 9)),none⟩,⟨(some 119),(.faddr 1 (.tmp 12)),none⟩,⟨(some 120),(.load false 1 (.tmp 119)),none⟩,⟨(some 121),(.faddr 3 (.tmp 12)),none⟩,⟨(some 122),(.load true 2 (.tmp 121)),none⟩,⟨(some 123),(.call (.func 69) [(.tmp 118),(.tmp 120),(.tmp 122)]),none⟩,⟨(some 117),(.mov (.tmp 123)),none⟩,⟨(some 124),(.ext (.tmp 117) 0),none⟩,⟨(some 125),(.ext (.tmp 117) 1),none⟩,⟨(some 18),(.alloc [(.sc (.slice none 0 0)),(.sc (.int .i64 0))]),none⟩,⟨none,(.store 2 (.tmp 18) (.tmp 124)),none⟩,⟨(some 19),(.mov (.tmp 125)),none⟩] false []) (.seq (.region [⟨(some 126),(.load true 2 (.tmp 18)),none⟩,⟨none,(.store 2 (.tmp 9) (.tmp 126)),none⟩] false []) (.seq (.region [⟨(some 127),(.mov (.tmp 7)),none⟩,⟨(some 128),(.faddr 1 (.tmp 12)),none⟩,⟨(some 129),(.load false 1 (.tmp 128)),none⟩,⟨(some 130),(.faddr 3 (.tmp 12)),none⟩,⟨(some 131),(.load true 2 (.tmp 130)),none⟩,⟨(some 132),(.call (.func 64) [(.tmp 127),(.tmp 129),(.tmp 131)]),none⟩,⟨(some 133),(.mov (.tmp 19)),none⟩,⟨(some 134),(.bin .neq 95 (.tmp 132) (.tmp 133)),none⟩] false []) (.cond (.tmp 134) (.seq (.region [⟨(some 6),(.mov (.const (.bool false))),none⟩] false []) .ret) .skip)))) (.seq (.region [⟨(some 136),(.bin .eql 3 (.tmp 88) (.const (.int .i64 2))),none⟩,⟨(some 135),(.mov (.tmp 136)),none⟩] false []) (.cond (.tmp 135) (.seq (.region [⟨(some 137),(.mov (.tmp 7)),none⟩,⟨(some 138),(.faddr 1 (.tmp 12)),none⟩,⟨(some 139),(.load false 1 (.tmp 138)),none⟩,⟨(some 140),(.faddr 2 (.tmp 12)),none⟩,⟨(some 141),(.load false 1 (.tmp 140)),none⟩,⟨(some 142),(.call (.func 65) [(.tmp 137),(.tmp 139),(.tmp 141)]),none⟩] false []) (.region [⟨(some 143),(.load true 2 (.tmp 9)),none⟩,⟨(some 144),(.faddr 1 (.tmp 12)),none⟩,⟨(some 145),(.load false 1 (.tmp 144)),none⟩,⟨(some 146),(.faddr 2 (.tmp 12)),none⟩,⟨(some 147),(.load false 1 (.tmp 146)),none⟩,⟨(some 148),(.call (.func 70) [(.tmp 143),(.tmp 145),(.tmp 147)]),none⟩,⟨none,(.store 2 (.tmp 9) (.tmp 148)),none⟩] false [])) (.seq (.region [⟨(some 150),(.bin .eql 3 (.tmp 88) (.const (.int .i64 4))),none⟩,⟨(some 149),(.mov (.tmp 150)),none⟩] false []) (.cond (.tmp 149) (.seq (.region [⟨(some 152),(.load true 2 (.tmp 9)),none⟩,⟨(some 153),(.faddr 2 (.tmp 12)),none⟩,⟨(some 154),(.load false 1 (.tmp 153)),none⟩,⟨(some 155),(.call (.func 71) [(.tmp 152),(.tmp 154)]),none⟩,⟨(some 151),(.mov (.tmp 155)),none⟩,⟨(some 156),(.ext (.tmp 151) 0),none⟩,⟨(some 157),(.ext (.tmp 151) 1),none⟩,⟨(some 158),(.ext (.tmp 151) 2),none⟩,⟨(some 20),(.alloc [(.sc (.slice none 0 0)),(.sc (.int .i64 0))]),none⟩,⟨none,(.store 2 (.tmp 20) (.tmp 156)),none⟩,⟨(some 21),(.mov (.tmp 157)),none⟩,⟨(some 22),(.mov (.tmp 158)),none⟩] false []) (.seq (.region [⟨(some 160),(.mov (.tmp 7)),none⟩,⟨(some 161),(.faddr 2 (.tmp 12)),none⟩,⟨(some 162),(.load false 1 (.tmp 161)),none⟩,⟨(some 163),(.call (.func 72) [(.tmp 160),(.tmp 162)]),none⟩,⟨(some 159),(.mov (.tmp 163)),none⟩,⟨(some 164),(.ext (.tmp 159) 0),none⟩,⟨(some 165),(.ext (.tmp 159) 1),none⟩,⟨(some 23),(.mov (.tmp 164)),none⟩,⟨(some 24),(.mov (.tmp 165)),none⟩] false []) (.seq (.region [⟨(some 166),(.load true 2 (.tmp 20)),none⟩,⟨none,(.store 2 (.tmp 9) (.tmp 166)),none⟩] false []) (.seq (.region [⟨(some 167),(.mov (.tmp 23)),none⟩,⟨(some 168),(.mov (.tmp 21)),none⟩,⟨(some 169),(.bin .neq 3 (.tmp 167) (.tmp 168)),none⟩,⟨(some 170),(.mov (.tmp 169)),none⟩,⟨(some 171),(.mov (.tmp 22)),(some ((some 170),false))⟩,⟨(some 172),(.mov (.tmp 24)),(some ((some 170),false))⟩,⟨(some 173),(.bin .neq 95 (.tmp 171) (.tmp 172)),(some ((some 170),false))⟩,⟨(some 174),(.pick (.tmp 170) (.const (.bool true)) (.tmp 173)),none⟩] false []) (.cond (.tmp 174) (.seq (.region [⟨(some 6),(.mov (.const (.bool false))),none⟩] false []) .ret) .skip))))) (.seq (.region [⟨(some 176),(.bin .eql 3 (.tmp 88) (.const (.int .i64 3))),none⟩,⟨(some 175),(.mov (.tmp 176)),none⟩] false []) (.cond (.tmp 175) (.seq (.region [⟨(some 177),(.mov (.tmp 7)),none⟩,⟨(some 178),(.call (.func 73) [(.tmp 177)]),none⟩,⟨(some 25),(.mov (.tmp 178)),none⟩] false []) (.seq (.seq (.region [⟨(some 179),(.mov (.tmp 25)),none⟩,⟨(some 180),(.isnil false 1 (.tmp 179)),none⟩] false []) (.cond (.tmp 180) (.seq (.region [⟨(some 6),(.mov (.const (.bool false))),none⟩] false []) .ret) .skip)) (.seq (.region [⟨(some 181),(.mov (.tmp 7)),none⟩,⟨(some 182),(.call (.func 61) [(.tmp 181),(.const (.int .i64 1))]),none⟩] false []) (.seq (.region [⟨(some 183),(.mov (.tmp 7)),none⟩,⟨(some 184),(.call (.func 65) [(.tmp 183),(.const (.int .i64 16384)),(.const (.int .i64 16384))]),none⟩] false []) (.region [⟨(some 185),(.mov (.tmp 25)),none⟩,⟨(some 7),(.mov (.tmp 185)),none⟩] false []))))) .skip)))))))))))) (.seq (.region [⟨(some 186),(.mov (.tmp 7)),none⟩,⟨(some 187),(.load true 2 (.tmp 9)),none⟩,⟨(some 188),(.faddr 1 (.tmp 12)),none⟩,⟨(some 189),(.load false 1 (.tmp 188)),none⟩,⟨(some 190),(.call (.func 67) [(.tmp 186),(.tmp 187),(.tmp 189)]),none⟩,⟨(some 191),(.un .not (.tmp 190)),none⟩] false []) (.cond (.tmp 191) (.seq (.region [⟨(some 6),(.mov (.const (.bool false))),none⟩] false []) .ret) .skip))))) (.region [⟨(some 192),(.bin .add 3 (.tmp 83) (.const (.int .i64 1))),none⟩,⟨(some 83),(.mov (.tmp 192)),none⟩] false []))))
def c16R1 : ACode:=(.seq (.region [⟨(some 193),(.call (.func 56) []),none⟩,⟨(some 6),(.mov (.tmp 193)),none⟩] false []) .ret)
def c16 : ACode:=(.seq (.region [⟨(some 3),(.box 2 (.tmp 0)),none⟩,⟨(some 4),(.box 3 (.tmp 1)),none⟩,⟨(some 6),(.mov (.const (.bool false))),none⟩] false []) (.seq (.seq (.region [⟨(some 26),(.load true 2 (.tmp 3)),none⟩,⟨(some 27),(.iaddr (some 3) 1 (.tmp 4) (.const (.int .i64 1))),none⟩,⟨(some 28),(.load false 1 (.tmp 27)),none⟩,⟨(some 29),(.mov (.tmp 2)),none⟩,⟨(some 30),(.call (.func 55) [(.tmp 26),(.tmp 28),(.tmp 29)]),none⟩,⟨(some 31),(.un .not (.tmp 30)),none⟩] false []) (.cond (.tmp 31) (.seq (.region [⟨(some 32),(.call (.func 56) []),none⟩,⟨(some 6),(.mov (.tmp 32)),none⟩] false []) .ret) .skip)) (.seq (.region [⟨(some 34),(.load true 2 (.tmp 3)),none⟩,⟨(some 35),(.call (.func 58) [(.tmp 34)]),none⟩,⟨(some 36),(.iaddr (some 3) 1 (.tmp 4) (.const (.int .i64 0))),none⟩,⟨(some 37),(.load false 1 (.tmp 36)),none⟩,⟨(some 38),(.iaddr (some 3) 1 (.tmp 4) (.const (.int .i64 1))),none⟩,⟨(some 39),(.load false 1 (.tmp 38)),none⟩,⟨(some 40),(.iaddr (some 3) 1 (.tmp 4) (.const (.int .i64 2))),none⟩,⟨(some 41),(.load false 1 (.tmp 40)),none⟩,⟨(some 42),(.call (.func 57) [(.tmp 35),(.tmp 37),(.tmp 39),(.tmp 41)]),none⟩,⟨(some 33),(.mov (.tmp 42)),none⟩,⟨(some 43),(.ext (.tmp 33) 0),none⟩,⟨(some 44),(.ext (.tmp 33) 1),none⟩,⟨(some 7),(.mov (.tmp 43)),none⟩,⟨(some 8),(.mov (.tmp 44)),none⟩] true [(1,2),(1,3),(1,4),(1,5),(1,6),(1,7)]) (.seq (.region [⟨(some 46),(.load true 2 (.tmp 3)),none⟩,⟨(some 47),(.iaddr (some 3) 1 (.tmp 4) (.const (.int .i64 0))),none⟩,⟨(some 48),(.load false 1 (.tmp 47)),none⟩,⟨(some 49),(.iaddr (some 3) 1 (.tmp 4) (.const (.int .i64 1))),none⟩,⟨(some 50),(.load false 1 (.tmp 49)),none⟩,⟨(some 51),(.iaddr (some 3) 1 (.tmp 4) (.const (.int .i64 2))),none⟩,⟨(some 52),(.load false 1 (.tmp 51)),none⟩,⟨(some 53),(.call (.func 66) [(.tmp 46),(.tmp 48),(.tmp 50),(.tmp 52)]),none⟩,⟨(some 45),(.mov (.tmp 53)),none⟩,⟨(some 54),(.ext (.tmp 45) 0),none⟩,⟨(some 55),(.ext (.tmp 45) 1),none⟩,⟨(some 9),(.alloc [(.sc (.slice none 0 0)),(.sc (.int .i64 0))]),none⟩,⟨none,(.store 2 (.tmp 9) (.tmp 54)),none⟩,⟨(some 10),(.mov (.tmp 55)),none⟩] false []) (.seq (.seq (.region [⟨(some 56),(.mov (.tmp 10)),none⟩,⟨(some 57),(.un .not (.tmp 56)),none⟩] false []) (.cond (.tmp 57) (.seq (.region [⟨(some 58),(.call (.func 56) []),none⟩,⟨(some 59),(.mov (.tmp 58)),none⟩,⟨(some 60),(.mov (.tmp 8)),(some ((some 59),true))⟩,⟨(some 61),(.bin .eql 95 (.tmp 60) (.const (.int .i64 1))),(some ((some 59),true))⟩,⟨(some 62),(.pick (.tmp 59) (.tmp 61) (.const (.bool false))),none⟩,⟨(some 63),(.mov (.tmp 62)),none⟩,⟨(some 64),(.mov (.tmp 7)),(some ((some 63),true))⟩,⟨(some 65),(.isnil false 1 (.tmp 64)),(some ((some 63),true))⟩,⟨(some 66),(.pick (.tmp 63) (.tmp 65) (.const (.bool false))),none⟩,⟨(some 6),(.mov (.tmp 66)),none⟩] false []) .ret) .skip)) (.seq (.seq (.region [⟨(some 67),(.mov (.tmp 8)),none⟩,⟨(some 68),(.bin .neq 95 (.tmp 67) (.const (.int .i64 0))),none⟩,⟨(some 69),(.mov (.tmp 68)),none⟩,⟨(some 70),(.mov (.tmp 7)),(some ((some 69),false))⟩,⟨(some 71),(.isnil false 1 (.tmp 70)),(some ((some 69),false))⟩,⟨(some 72),(.pick (.tmp 69) (.const (.bool true)) (.tmp 71)),none⟩,⟨(some 73),(.mov (.tmp 72)),none⟩,⟨(some 74),(.mov (.tmp 7)),(some ((some 73),false))⟩,⟨(some 75),(.load true 2 (.tmp 9)),(some ((some 73),false))⟩,⟨(some 76),(.iaddr (some 3) 1 (.tmp 4) (.const (.int .i64 0))),(some ((some 73),false))⟩,⟨(some 77),(.load false 1 (.tmp 76)),(some ((some 73),false))⟩,⟨(some 78),(.call (.func 67) [(.tmp 74),(.tmp 75),(.tmp 77)]),(some ((some 73),false))⟩,⟨(some 79),(.un .not (.tmp 78)),(some ((some 73),false))⟩,⟨(some 80),(.pick (.tmp 73) (.const (.bool true)) (.tmp 79)),none⟩] false []) (.cond (.tmp 80) (.seq (.region [⟨(some 6),(.mov (.const (.bool false))),none⟩] false []) .ret) .skip)) (.seq (.seq (.region [⟨(some 81),(.mov (.tmp 2)),none⟩,⟨(some 82),(.len 0 (.tmp 81)),none⟩,⟨(some 83),(.mov (.const (.int .i64 0))),none⟩] false []) (.block 0 (.loop c16L0))) c16R1)))))))
def r16 : List ARes:=[(.tmp 6)]
def c40L0 : ACode:=(.seq (.region [⟨(some 8),(.bin .lss 3 (.tmp 7) (.tmp 6)),none⟩] false []) (.seq (.cond (.tmp 8) .skip (.exit 0)) (.seq (.block 1 (.seq (.region [⟨(some 9),(.mov (.tmp 7)),none⟩,⟨(some 10),(.iaddr none 2 (.tmp 5) (.tmp 7)),none⟩,⟨(some 11),(.load true 2 (.tmp 10)),none⟩,⟨(some 4),(.alloc [(.sc (.int .i64 0)),(.sc (.int .i64 0))]),none⟩,⟨(some 3),(.mov (.tmp 9)),none⟩,⟨none,(.store 2 (.tmp 4) (.tmp 11)),none⟩] false []) (.seq (.region [⟨(some 12),(.load true 2 (.tmp 4)),none⟩,⟨(some 13),(.call (.func 106) [(.tmp 12)]),none⟩,⟨(some 14),(.un .not (.tmp 13)),none⟩,⟨(some 15),(.mov (.tmp 14)),none⟩,⟨(some 16),(.mov (.tmp 3)),(some ((some 15),false))⟩,⟨(some 17),(.bin .gtr 3 (.tmp 16) (.const (.int .i64 0))),(some ((some 15),false))⟩,⟨(some 18),(.mov (.tmp 17)),(some ((some 15),false))⟩,⟨(some 19),(.faddr 0 (.tmp 4)),(some ((some 18),true))⟩,⟨(some 20),(.load false 1 (.tmp 19)),(some ((some 18),true))⟩,⟨(some 21),(.mov (.tmp 0)),(some ((some 18),true))⟩,⟨(some 22),(.mov (.tmp 3)),(some ((some 18),true))⟩,⟨(some 23),(.bin .sub 3 (.tmp 22) (.const (.int .i64 1))),(some ((some 18),true))⟩,⟨(some 24),(.iaddr none 2 (.tmp 21) (.tmp 23)),(some ((some 18),true))⟩,⟨(some 25),(.load true 2 (.tmp 24)),(some ((some 18),true))⟩,⟨(some 26),(.call (.func 107) [(.tmp 25)]),(some ((some 18),true))⟩,⟨(some 27),(.bin .leq 3 (.tmp 20) (.tmp 26)),(some ((some 18),true))⟩,⟨(some 28),(.pick (.tmp 18) (.tmp 27) (.const (.bool false))),(some ((some 15),false))⟩,⟨(some 29),(.pick (.tmp 15) (.const (.bool true)) (.tmp 28)),none⟩] true [(8,14)]) (.cond (.tmp 29) (.seq (.region [⟨(some 2),(.mov (.const (.bool false))),none⟩] false []) .ret) .skip)))) (.region [⟨(some 30),(.bin .add 3 (.tmp 7) (.const (.int .i64 1))),none⟩,⟨(some 7),(.mov (.tmp 30)),none⟩] false []))))
def c40R1 : ACode:=(.seq (.region [⟨(some 2),(.mov (.const (.bool true))),none⟩] false []) .ret)
def c40 : ACode:=(.seq (.region [⟨(some 2),(.mov (.const (.bool false))),none⟩] false []) (.seq (.seq (.region [⟨(some 5),(.mov (.tmp 0)),none⟩,⟨(some 6),(.len 0 (.tmp 5)),none⟩,⟨(some 7),(.mov (.const (.int .i64 0))),none⟩] false []) (.block 0 (.loop c40L0))) c40R1))
def r40 : List ARes:=[(.tmp 2)]
def c41L0 : ACode:=(.seq (.seq (.region [⟨(some 4),(.mov (.tmp 3)),none⟩,⟨(some 5),(.mov (.tmp 0)),none⟩,⟨(some 6),(.len 0 (.tmp 5)),none⟩,⟨(some 7),(.bin .lss 3 (.tmp 4) (.tmp 6)),none⟩] false []) (.cond (.tmp 7) .skip (.exit 0))) (.seq (.block 1 (.seq (.region [⟨(some 10),(.mov (.tmp 0)),none⟩,⟨(some 11),(.mov (.tmp 3)),none⟩,⟨(some 12),(.iaddr none 2 (.tmp 10) (.tmp 11)),none⟩,⟨(some 13),(.load true 2 (.tmp 12)),none⟩,⟨(some 14),(.call (.func 49) [(.tmp 13)]),none⟩,⟨(some 15),(.un .not (.tmp 14)),none⟩,⟨(some 16),(.mov (.tmp 15)),none⟩,⟨(some 17),(.mov (.tmp 3)),(some ((some 16),false))⟩,⟨(some 18),(.bin .gtr 3 (.tmp 17) (.const (.int .i64 0))),(some ((some 16),false))⟩,⟨(some 19),(.mov (.tmp 18)),(some ((some 16),false))⟩,⟨(some 20),(.mov (.tmp 0)),(some ((some 19),true))⟩,⟨(some 21),(.mov (.tmp 3)),(some ((some 19),true))⟩,⟨(some 22),(.iaddr none 2 (.tmp 20) (.tmp 21)),(some ((some 19),true))⟩,⟨(some 23),(.faddr 0 (.tmp 22)),(some ((some 19),true))⟩,⟨(some 24),(.load false 1 (.tmp 23)),(some ((some 19),true))⟩,⟨(some 25),(.mov (.tmp 0)),(some ((some 19),true))⟩,⟨(some 26),(.mov (.tmp 3)),(some ((some 19),true))⟩,⟨(some 27),(.bin .sub 3 (.tmp 26) (.const (.int .i64 1))),(some ((some 19),true))⟩,⟨(some 28),(.iaddr none 2 (.tmp 25) (.tmp 27)),(some ((some 19),true))⟩,⟨(some 29),(.faddr 0 (.tmp 28)),(some ((some 19),true))⟩,⟨(some 30),(.load false 1 (.tmp 29)),(some ((some 19),true))⟩,⟨(some 31),(.mov (.tmp 0)),(some ((some 19),true))⟩,⟨(some 32),(.mov (.tmp 3)),(some ((some 19),true))⟩,⟨(some 33),(.bin .sub 3 (.tmp 32) (.const (.int .i64 1))),(some ((some 19),true))⟩,⟨(some 34),(.iaddr none 2 (.tmp 31) (.tmp 33)),(some ((some 19),true))⟩,⟨(some 35),(.faddr 1 (.tmp 34)),(some ((some 19),true))⟩,⟨(some 36),(.load false 1 (.tmp 35)),(some ((some 19),true))⟩,⟨(some 37),(.bin .add 3 (.tmp 30) (.tmp 36)),(some ((some 19),true))⟩,⟨(some 38),(.bin .add 3 (.tmp 37) (.const (.int .i64 1))),(some ((some 19),true))⟩,⟨(some 39),(.bin .lss 3 (.tmp 24) (.tmp 38)),(some ((some 19),true))⟩,⟨(some 40),(.pick (.tmp 19) (.tmp 39) (.const (.bool false))),(some ((some 16),false))⟩,⟨(some 41),(.pick (.tmp 16) (.const (.bool true)) (.tmp 40)),none⟩] true []) (.cond (.tmp 41) (.seq (.region [⟨(some 2),(.mov (.const (.bool false))),none⟩] false []) .ret) .skip))) (.region [⟨(some 8),(.mov (.tmp 3)),none⟩,⟨(some 9),(.bin .add 3 (.tmp 8) (.const (.int .i64 1))),none⟩,⟨(some 3),(.mov (.tmp 9)),none⟩] false [])))
def c41R1 : ACode:=(.seq (.region [⟨(some 2),(.mov (.const (.bool true))),none⟩] false []) .ret)
def c41 : ACode:=(.seq (.region [⟨(some 2),(.mov (.const (.bool false))),none⟩] false []) (.seq (.seq (.region [⟨(some 3),(.mov (.const (.int .i64 0))),none⟩] false []) (.block 0 (.loop c41L0))) c41R1))
def r41 : List ARes:=[(.tmp 2)]
def c42L0 : ACode:=(.seq (.region [⟨(some 10),(.bin .lss 3 (.tmp 9) (.tmp 8)),none⟩] false []) (.seq (.cond (.tmp 10) .skip (.exit 0)) (.seq (.block 1 (.seq (.region [⟨(some 11),(.iaddr none 2 (.tmp 7) (.tmp 9)),none⟩,⟨(some 12),(.load true 2 (.tmp 11)),none⟩,⟨(some 5),(.alloc [(.sc (.int .i64 0)),(.sc (.int .i64 0))]),none⟩,⟨none,(.store 2 (.tmp 5) (.tmp 12)),none⟩] false []) (.region [⟨(some 13),(.mov (.tmp 3)),none⟩,⟨(some 14),(.faddr 1 (.tmp 5)),none⟩,⟨(some 15),(.load false 1 (.tmp 14)),none⟩,⟨(some 16),(.bin .add 3 (.tmp 13) (.tmp 15)),none⟩,⟨(some 3),(.mov (.tmp 16)),none⟩] false []))) (.region [⟨(some 17),(.bin .add 3 (.tmp 9) (.const (.int .i64 1))),none⟩,⟨(some 9),(.mov (.tmp 17)),none⟩] false []))))
def c42R1 : ACode:=(.seq (.region [⟨(some 18),(.mov (.tmp 3)),none⟩,⟨(some 2),(.mov (.tmp 18)),none⟩] false []) .ret)
def c42 : ACode:=(.seq (.region [⟨(some 2),(.mov (.const (.int .i64 0))),none⟩] false []) (.seq (.region [⟨(some 3),(.mov (.const (.int .i64 0))),none⟩] false []) (.seq (.seq (.region [⟨(some 6),(.mov (.tmp 0)),none⟩,⟨(some 7),(.call (.func 105) [(.tmp 6)]),none⟩,⟨(some 8),(.len 0 (.tmp 7)),none⟩,⟨(some 9),(.mov (.const (.int .i64 0))),none⟩] false []) (.block 0 (.loop c42L0))) c42R1)))
def r42 : List ARes:=[(.tmp 2)]
def c43 : ACode:=(.seq (.region [⟨(some 2),(.mov (.const (.int .i64 0))),none⟩] false []) (.seq (.region [⟨(some 6),(.mov (.tmp 0)),none⟩,⟨(some 7),(.call (.func 105) [(.tmp 6)]),none⟩,⟨(some 8),(.call (.func 108) [(.tmp 7)]),none⟩,⟨(some 5),(.mov (.tmp 8)),none⟩,⟨(some 9),(.ext (.tmp 5) 0),none⟩,⟨(some 10),(.ext (.tmp 5) 1),none⟩,⟨(some 3),(.alloc [(.sc (.int .i64 0)),(.sc (.int .i64 0))]),none⟩,⟨none,(.store 2 (.tmp 3) (.tmp 9)),none⟩,⟨(some 4),(.mov (.tmp 10)),none⟩] false []) (.seq (.seq (.region [⟨(some 11),(.mov (.tmp 4)),none⟩,⟨(some 12),(.un .not (.tmp 11)),none⟩] false []) (.cond (.tmp 12) (.seq (.region [⟨(some 2),(.mov (.const (.int .i64 0))),none⟩] false []) .ret) .skip)) (.seq (.region [⟨(some 13),(.load true 2 (.tmp 3)),none⟩,⟨(some 14),(.call (.func 107) [(.tmp 13)]),none⟩,⟨(some 2),(.mov (.tmp 14)),none⟩] false []) .ret))))
def r43 : List ARes:=[(.tmp 2)]
def c45L0 : ACode:=(.seq (.seq (.region [⟨(some 11),(.mov (.tmp 5)),none⟩,⟨(some 12),(.mov (.tmp 0)),none⟩,⟨(some 13),(.len 0 (.tmp 12)),none⟩,⟨(some 14),(.bin .lss 3 (.tmp 11) (.tmp 13)),none⟩] false []) (.cond (.tmp 14) .skip (.exit 0))) (.seq (.block 1 (.seq (.region [⟨(some 17),(.mov (.tmp 0)),none⟩,⟨(some 18),(.mov (.tmp 5)),none⟩,⟨(some 19),(.iaddr none 2 (.tmp 17) (.tmp 18)),none⟩,⟨(some 20),(.load true 2 (.tmp 19)),none⟩,⟨(some 21),(.mov (.tmp 1)),none⟩,⟨(some 22),(.mov (.tmp 5)),none⟩,⟨(some 23),(.iaddr none 2 (.tmp 21) (.tmp 22)),none⟩,⟨(some 24),(.load true 2 (.tmp 23)),none⟩,⟨(some 25),(.eqs true [0,0] (.tmp 20) (.tmp 24)),none⟩] true []) (.cond (.tmp 25) (.seq (.region [⟨(some 4),(.mov (.const (.bool false))),none⟩] false []) .ret) .skip))) (.region [⟨(some 15),(.mov (.tmp 5)),none⟩,⟨(some 16),(.bin .add 3 (.tmp 15) (.const (.int .i64 1))),none⟩,⟨(some 5),(.mov (.tmp 16)),none⟩] false [])))
def c45R1 : ACode:=(.seq (.region [⟨(some 4),(.mov (.const (.bool true))),none⟩] false []) .ret)
def c45 : ACode:=(.seq (.region [⟨(some 4),(.mov (.const (.bool false))),none⟩] false []) (.seq (.seq (.region [⟨(some 6),(.mov (.tmp 0)),none⟩,⟨(some 7),(.len 0 (.tmp 6)),none⟩,⟨(some 8),(.mov (.tmp 1)),none⟩,⟨(some 9),(.len 0 (.tmp 8)),none⟩,⟨(some 10),(.bin .neq 3 (.tmp 7) (.tmp 9)),none⟩] false []) (.cond (.tmp 10) (.seq (.region [⟨(some 4),(.mov (.const (.bool false))),none⟩] false []) .ret) .skip)) (.seq (.seq (.region [⟨(some 5),(.mov (.const (.int .i64 0))),none⟩] false []) (.block 0 (.loop c45L0))) c45R1)))
def r45 : List ARes:=[(.tmp 4)]
def c48L0 : ACode:=(.seq (.seq (.region [⟨(some 5),(.mov (.tmp 4)),none⟩,⟨(some 6),(.mov (.tmp 0)),none⟩,⟨(some 7),(.len 0 (.tmp 6)),none⟩,⟨(some 8),(.bin .lss 3 (.tmp 5) (.tmp 7)),none⟩] false []) (.cond (.tmp 8) .skip (.exit 0))) (.seq (.block 1 (.seq (.seq (.region [⟨(some 11),(.mov (.tmp 0)),none⟩,⟨(some 12),(.mov (.tmp 4)),none⟩,⟨(some 13),(.iaddr none 1 (.tmp 11) (.tmp 12)),none⟩,⟨(some 14),(.load false 1 (.tmp 13)),none⟩,⟨(some 15),(.mov (.tmp 14)),none⟩,⟨(some 16),(.mov (.tmp 4)),(some ((some 15),true))⟩,⟨(some 17),(.bin .eql 3 (.tmp 16) (.const (.int .i64 0))),(some ((some 15),true))⟩,⟨(some 18),(.mov (.tmp 17)),(some ((some 15),true))⟩,⟨(some 19),(.mov (.tmp 0)),(some ((some 18),false))⟩,⟨(some 20),(.mov (.tmp 4)),(some ((some 18),false))⟩,⟨(some 21),(.bin .sub 3 (.tmp 20) (.const (.int .i64 1))),(some ((some 18),false))⟩,⟨(some 22),(.iaddr none 1 (.tmp 19) (.tmp 21)),(some ((some 18),false))⟩,⟨(some 23),(.load false 1 (.tmp 22)),(some ((some 18),false))⟩,⟨(some 24),(.un .not (.tmp 23)),(some ((some 18),false))⟩,⟨(some 25),(.pick (.tmp 18) (.const (.bool true)) (.tmp 24)),(some ((some 15),true))⟩,⟨(some 26),(.pick (.tmp 15) (.tmp 25) (.const (.bool false))),none⟩] false []) (.cond (.tmp 26) (.region [⟨(some 27),(.mov (.tmp 3)),none⟩,⟨(some 28),(.mov (.tmp 4)),none⟩,⟨(some 29),(.build [(.sc (.int .i64 0)),(.sc (.int .i64 0))] [(0,(1,(.tmp 28)))]),none⟩,⟨(some 30),(.bslice 2 [(.sc (.int .i64 0)),(.sc (.int .i64 0))] 1 [(0,(.tmp 29))]),none⟩,⟨(some 31),(.app 2 16 (.tmp 27) (.tmp 30)),none⟩,⟨(some 3),(.mov (.tmp 31)),none⟩] false []) .skip)) (.seq (.region [⟨(some 32),(.mov (.tmp 0)),none⟩,⟨(some 33),(.mov (.tmp 4)),none⟩,⟨(some 34),(.iaddr none 1 (.tmp 32) (.tmp 33)),none⟩,⟨(some 35),(.load false 1 (.tmp 34)),none⟩] false []) (.cond (.tmp 35) (.region [⟨(some 36),(.mov (.tmp 3)),none⟩,⟨(some 37),(.mov (.tmp 3)),none⟩,⟨(some 38),(.len 0 (.tmp 37)),none⟩,⟨(some 39),(.bin .sub 3 (.tmp 38) (.const (.int .i64 1))),none⟩,⟨(some 40),(.mov (.tmp 3)),none⟩,⟨(some 41),(.mov (.tmp 3)),none⟩,⟨(some 42),(.len 0 (.tmp 41)),none⟩,⟨(some 43),(.bin .sub 3 (.tmp 42) (.const (.int .i64 1))),none⟩,⟨(some 44),(.iaddr none 2 (.tmp 40) (.tmp 43)),none⟩,⟨(some 45),(.faddr 1 (.tmp 44)),none⟩,⟨(some 46),(.load false 1 (.tmp 45)),none⟩,⟨(some 47),(.bin .add 3 (.tmp 46) (.const (.int .i64 1))),none⟩,⟨(some 48),(.iaddr none 2 (.tmp 36) (.tmp 39)),none⟩,⟨(some 49),(.faddr 1 (.tmp 48)),none⟩,⟨none,(.store 1 (.tmp 49) (.tmp 47)),none⟩] false []) .skip)))) (.region [⟨(some 9),(.mov (.tmp 4)),none⟩,⟨(some 10),(.bin .add 3 (.tmp 9) (.const (.int .i64 1))),none⟩,⟨(some 4),(.mov (.tmp 10)),none⟩] false [])))
def c48R1 : ACode:=(.seq (.region [⟨(some 50),(.mov (.tmp 3)),none⟩,⟨(some 2),(.mov (.tmp 50)),none⟩] false []) .ret)
def c48 : ACode:=(.seq (.region [⟨(some 2),(.mov (.const (.slice none 0 0))),none⟩] false []) (.seq (.region [⟨(some 3),(.mov (.const (.slice none 0 0))),none⟩] false []) (.seq (.seq (.region [⟨(some 4),(.mov (.const (.int .i64 0))),none⟩] false []) (.block 0 (.loop c48L0))) c48R1)))
def r48 : List ARes:=[(.tmp 2)]
def c49 : ACode:=(.seq (.region [⟨(some 1),(.box 2 (.tmp 0)),none⟩,⟨(some 2),(.mov (.const (.bool false))),none⟩] false []) (.seq (.region [⟨(some 3),(.faddr 0 (.tmp 1)),none⟩,⟨(some 4),(.load false 1 (.tmp 3)),none⟩,⟨(some 5),(.bin .geq 3 (.tmp 4) (.const (.int .i64 0))),none⟩,⟨(some 6),(.mov (.tmp 5)),none⟩,⟨(some 7),(.faddr 0 (.tmp 1)),(some ((some 6),true))⟩,⟨(some 8),(.load false 1 (.tmp 7)),(some ((some 6),true))⟩,⟨(some 9),(.bin .leq 3 (.tmp 8) (.const (.int .i64 32768))),(some ((some 6),true))⟩,⟨(some 10),(.pick (.tmp 6) (.tmp 9) (.const (.bool false))),none⟩,⟨(some 11),(.mov (.tmp 10)),none⟩,⟨(some 12),(.faddr 1 (.tmp 1)),(some ((some 11),true))⟩,⟨(some 13),(.load false 1 (.tmp 12)),(some ((some 11),true))⟩,⟨(some 14),(.bin .geq 3 (.tmp 13) (.const (.int .i64 1))),(some ((some 11),true))⟩,⟨(some 15),(.pick (.tmp 11) (.tmp 14) (.const (.bool false))),none⟩,⟨(some 16),(.mov (.tmp 15)),none⟩,⟨(some 17),(.faddr 1 (.tmp 1)),(some ((some 16),true))⟩,⟨(some 18),(.load false 1 (.tmp 17)),(some ((some 16),true))⟩,⟨(some 19),(.bin .leq 3 (.tmp 18) (.const (.int .i64 32768))),(some ((some 16),true))⟩,⟨(some 20),(.pick (.tmp 16) (.tmp 19) (.const (.bool false))),none⟩,⟨(some 21),(.mov (.tmp 20)),none⟩,⟨(some 22),(.faddr 0 (.tmp 1)),(some ((some 21),true))⟩,⟨(some 23),(.load false 1 (.tmp 22)),(some ((some 21),true))⟩,⟨(some 24),(.faddr 1 (.tmp 1)),(some ((some 21),true))⟩,⟨(some 25),(.load false 1 (.tmp 24)),(some ((some 21),true))⟩,⟨(some 26),(.bin .add 3 (.tmp 23) (.tmp 25)),(some ((some 21),true))⟩,⟨(some 27),(.bin .leq 3 (.tmp 26) (.const (.int .i64 32768))),(some ((some 21),true))⟩,⟨(some 28),(.pick (.tmp 21) (.tmp 27) (.const (.bool false))),none⟩,⟨(some 2),(.mov (.tmp 28)),none⟩] false []) .ret))
def r49 : List ARes:=[(.tmp 2)]
def c51L0 : ACode:=(.seq (.region [⟨(some 72),(.bin .lss 3 (.tmp 71) (.tmp 70)),none⟩] false []) (.seq (.cond (.tmp 72) .skip (.exit 0)) (.seq (.block 1 (.seq (.region [⟨(some 73),(.iaddr none 2 (.tmp 69) (.tmp 71)),none⟩,⟨(some 74),(.load true 2 (.tmp 73)),none⟩,⟨(some 9),(.alloc [(.sc (.int .i64 0)),(.sc (.int .i64 0))]),none⟩,⟨none,(.store 2 (.tmp 9) (.tmp 74)),none⟩] false []) (.seq (.region [⟨(some 75),(.load true 2 (.tmp 9)),none⟩,⟨(some 76),(.faddr 0 (.tmp 9)),none⟩,⟨(some 77),(.load false 1 (.tmp 76)),none⟩,⟨(some 78),(.build [(.sc (.int .i64 0)),(.sc (.int .i64 0))] [(0,(1,(.tmp 77))),(1,(1,(.const (.int .i64 0))))]),none⟩,⟨(some 79),(.eqs true [0,0] (.tmp 75) (.tmp 78)),none⟩] false []) (.cond (.tmp 79) (.region [⟨(some 80),(.mov (.tmp 7)),none⟩,⟨(some 81),(.load true 2 (.tmp 9)),none⟩,⟨(some 82),(.bslice 2 [(.sc (.int .i64 0)),(.sc (.int .i64 0))] 1 [(0,(.tmp 81))]),none⟩,⟨(some 83),(.app 2 16 (.tmp 80) (.tmp 82)),none⟩,⟨(some 7),(.mov (.tmp 83)),none⟩] false []) .skip)))) (.region [⟨(some 84),(.bin .add 3 (.tmp 71) (.const (.int .i64 1))),none⟩,⟨(some 71),(.mov (.tmp 84)),none⟩] false []))))
def c51R1 : ACode:=(.seq (.region [⟨(some 85),(.mov (.tmp 0)),none⟩,⟨(some 86),(.mov (.tmp 6)),none⟩,⟨(some 87),(.mov (.tmp 6)),none⟩,⟨(some 88),(.bin .add 3 (.tmp 87) (.const (.int .i64 1))),none⟩,⟨(some 89),(.mov (.tmp 7)),none⟩,⟨(some 90),(.call (.func 112) [(.tmp 85),(.tmp 86),(.tmp 88),(.tmp 89)]),none⟩,⟨(some 4),(.mov (.tmp 90)),none⟩,⟨(some 5),(.mov (.const (.bool true))),none⟩] false []) .ret)
def c51 : ACode:=(.seq (.region [⟨(some 3),(.box 2 (.tmp 1)),none⟩,⟨(some 4),(.mov (.const (.slice none 0 0))),none⟩,⟨(some 5),(.mov (.const (.bool false))),none⟩] false []) (.seq (.region [⟨(some 10),(.mov (.tmp 0)),none⟩,⟨(some 11),(.call (.func 105) [(.tmp 10)]),none⟩,⟨(some 12),(.call (.func 111) [(.tmp 11)]),none⟩,⟨(some 0),(.mov (.tmp 12)),none⟩] false []) (.seq (.region [⟨(some 13),(.mov (.tmp 0)),none⟩,⟨(some 14),(.load true 2 (.tmp 3)),none⟩,⟨(some 15),(.call (.func 109) [(.tmp 13),(.tmp 14)]),none⟩,⟨(some 6),(.mov (.tmp 15)),none⟩] false []) (.seq (.seq (.region [⟨(some 16),(.load true 2 (.tmp 3)),none⟩,⟨(some 17),(.call (.func 106) [(.tmp 16)]),none⟩,⟨(some 18),(.un .not (.tmp 17)),none⟩,⟨(some 19),(.mov (.tmp 18)),none⟩,⟨(some 20),(.mov (.tmp 6)),(some ((some 19),false))⟩,⟨(some 21),(.bin .lss 3 (.tmp 20) (.const (.int .i64 0))),(some ((some 19),false))⟩,⟨(some 22),(.pick (.tmp 19) (.const (.bool true)) (.tmp 21)),none⟩,⟨(some 23),(.mov (.tmp 22)),none⟩,⟨(some 24),(.faddr 0 (.tmp 3)),(some ((some 23),false))⟩,⟨(some 25),(.load false 1 (.tmp 24)),(some ((some 23),false))⟩,⟨(some 26),(.mov (.tmp 0)),(some ((some 23),false))⟩,⟨(some 27),(.mov (.tmp 6)),(some ((some 23),false))⟩,⟨(some 28),(.iaddr none 2 (.tmp 26) (.tmp 27)),(some ((some 23),false))⟩,⟨(some 29),(.faddr 0 (.tmp 28)),(some ((some 23),false))⟩,⟨(some 30),(.load false 1 (.tmp 29)),(some ((some 23),false))⟩,⟨(some 31),(.bin .lss 3 (.tmp 25) (.tmp 30)),(some ((some 23),false))⟩,⟨(some 32),(.pick (.tmp 23) (.const (.bool true)) (.tmp 31)),none⟩,⟨(some 33),(.mov (.tmp 32)),none⟩,⟨(some 34),(.load true 2 (.tmp 3)),(some ((some 33),false))⟩,⟨(some 35),(.call (.func 107) [(.tmp 34)]),(some ((some 33),false))⟩,⟨(some 36),(.mov (.tmp 0)),(some ((some 33),false))⟩,⟨(some 37),(.mov (.tmp 6)),(some ((some 33),false))⟩,⟨(some 38),(.iaddr none 2 (.tmp 36) (.tmp 37)),(some ((some 33),false))⟩,⟨(some 39),(.load true 2 (.tmp 38)),(some ((some 33),false))⟩,⟨(some 40),(.call (.func 107) [(.tmp 39)]),(some ((some 33),false))⟩,⟨(some 41),(.bin .gtr 3 (.tmp 35) (.tmp 40)),(some ((some 33),false))⟩,⟨(some 42),(.pick (.tmp 33) (.const (.bool true)) (.tmp 41)),none⟩] true [(19,22),(19,23)]) (.cond (.tmp 42) (.seq (.region [⟨(some 43),(.mov (.tmp 0)),none⟩,⟨(some 4),(.mov (.tmp 43)),none⟩,⟨(some 5),(.mov (.const (.bool false))),none⟩] false []) .ret) .skip)) (.seq (.region [⟨(some 7),(.mov (.const (.slice none 0 0))),none⟩] false []) (.seq (.seq (.region [⟨(some 44),(.mov (.tmp 0)),none⟩,⟨(some 45),(.mov (.tmp 6)),none⟩,⟨(some 46),(.iaddr none 2 (.tmp 44) (.tmp 45)),none⟩,⟨(some 47),(.faddr 0 (.tmp 46)),none⟩,⟨(some 48),(.load false 1 (.tmp 47)),none⟩,⟨(some 49),(.faddr 0 (.tmp 3)),none⟩,⟨(some 50),(.load false 1 (.tmp 49)),none⟩,⟨(some 51),(.mov (.tmp 0)),none⟩,⟨(some 52),(.mov (.tmp 6)),none⟩,⟨(some 53),(.iaddr none 2 (.tmp 51) (.tmp 52)),none⟩,⟨(some 54),(.faddr 0 (.tmp 53)),none⟩,⟨(some 55),(.load false 1 (.tmp 54)),none⟩,⟨(some 56),(.bin .sub 3 (.tmp 50) (.tmp 55)),none⟩,⟨(some 57),(.build [(.sc (.int .i64 0)),(.sc (.int .i64 0))] [(0,(1,(.tmp 48))),(1,(1,(.tmp 56)))]),none⟩,⟨(some 58),(.load true 2 (.tmp 3)),none⟩,⟨(some 59),(.call (.func 107) [(.tmp 58)]),none⟩,⟨(some 60),(.mov (.tmp 0)),none⟩,⟨(some 61),(.mov (.tmp 6)),none⟩,⟨(some 62),(.iaddr none 2 (.tmp 60) (.tmp 61)),none⟩,⟨(some 63),(.load true 2 (.tmp 62)),none⟩,⟨(some 64),(.call (.func 107) [(.tmp 63)]),none⟩,⟨(some 65),(.load true 2 (.tmp 3)),none⟩,⟨(some 66),(.call (.func 107) [(.tmp 65)]),none⟩,⟨(some 67),(.bin .sub 3 (.tmp 64) (.tmp 66)),none⟩,⟨(some 68),(.build [(.sc (.int .i64 0)),(.sc (.int .i64 0))] [(0,(1,(.tmp 59))),(1,(1,(.tmp 67)))]),none⟩,⟨(some 69),(.bslice 2 [(.sc (.int .i64 0)),(.sc (.int .i64 0))] 2 [(0,(.tmp 57)),(1,(.tmp 68))]),none⟩,⟨(some 70),(.len 0 (.tmp 69)),none⟩,⟨(some 71),(.mov (.const (.int .i64 0))),none⟩] true [(2,15),(4,15),(6,15),(9,15),(11,15),(15,18),(15,19),(2,20),(4,20),(6,20),(9,20),(11,20),(15,21),(20,21),(2,22),(4,22),(6,22),(9,22),(11,22)]) (.block 0 (.loop c51L0))) c51R1))))))
def r51 : List ARes:=[(.tmp 4),(.tmp 5)]
def c52 : ACode:=(.seq (.region [⟨(some 4),(.mov (.const (.slice none 0 0))),none⟩] false []) (.seq (.region [⟨(some 5),(.mov (.tmp 0)),none⟩,⟨(some 6),(.call (.func 105) [(.tmp 5)]),none⟩,⟨(some 7),(.mov (.tmp 1)),none⟩,⟨(some 8),(.call (.func 105) [(.tmp 7)]),none⟩,⟨(some 9),(.bslice 1 [(.sc (.slice none 0 0))] 2 [(0,(.tmp 6)),(1,(.tmp 8))]),none⟩,⟨(some 10),(.call (.func 113) [(.tmp 9)]),none⟩,⟨(some 11),(.call (.func 110) [(.tmp 10)]),none⟩,⟨(some 4),(.mov (.tmp 11)),none⟩] false []) .ret))
def r52 : List ARes:=[(.tmp 4)]
def c53 : ACode:=(.seq (.region [⟨(some 3),(.box 1 (.tmp 1)),none⟩,⟨(some 4),(.mov (.const (.bool false))),none⟩] false []) (.seq (.region [⟨(some 5),(.load false 1 (.tmp 3)),none⟩,⟨(some 6),(.call (.func 105) [(.tmp 5)]),none⟩,⟨none,(.store 1 (.tmp 3) (.tmp 6)),none⟩] false []) (.seq (.region [⟨(some 7),(.mov (.tmp 0)),none⟩,⟨(some 8),(.call (.func 105) [(.tmp 7)]),none⟩,⟨(some 9),(.mkfn (.func 115) [] [(.tmp 3)]),none⟩,⟨(some 10),(.call (.func 114) [(.tmp 8),(.tmp 9)]),none⟩,⟨(some 4),(.mov (.tmp 10)),none⟩] false []) .ret)))
def r53 : List ARes:=[(.tmp 4)]
def c54 : ACode:=(.seq (.region [⟨(some 3),(.box 1 (.tmp 1)),none⟩,⟨(some 4),(.mov (.const (.int .i64 0))),none⟩,⟨(some 5),(.mov (.const (.slice none 0 0))),none⟩,⟨(some 6),(.mov (.const (.bool false))),none⟩] false []) (.seq (.region [⟨(some 9),(.mov (.tmp 0)),none⟩,⟨(some 10),(.call (.func 105) [(.tmp 9)]),none⟩,⟨(some 11),(.call (.func 111) [(.tmp 10)]),none⟩,⟨(some 0),(.mov (.tmp 11)),none⟩] false []) (.seq (.region [⟨(some 12),(.mov (.tmp 0)),none⟩,⟨(some 13),(.mkfn (.func 117) [] [(.tmp 3)]),none⟩,⟨(some 14),(.call (.func 116) [(.tmp 12),(.tmp 13)]),none⟩,⟨(some 7),(.mov (.tmp 14)),none⟩] false []) (.seq (.seq (.region [⟨(some 15),(.mov (.tmp 7)),none⟩,⟨(some 16),(.bin .lss 3 (.tmp 15) (.const (.int .i64 0))),none⟩] false []) (.cond (.tmp 16) (.seq (.region [⟨(some 17),(.mov (.tmp 0)),none⟩,⟨(some 4),(.mov (.const (.int .i64 0))),none⟩,⟨(some 5),(.mov (.tmp 17)),none⟩,⟨(some 6),(.mov (.const (.bool false))),none⟩] false []) .ret) .skip)) (.seq (.region [⟨(some 18),(.mov (.tmp 0)),none⟩,⟨(some 19),(.mov (.tmp 7)),none⟩,⟨(some 20),(.iaddr none 2 (.tmp 18) (.tmp 19)),none⟩,⟨(some 21),(.faddr 0 (.tmp 20)),none⟩,⟨(some 22),(.load false 1 (.tmp 21)),none⟩,⟨(some 23),(.load false 1 (.tmp 3)),none⟩,⟨(some 24),(.build [(.sc (.int .i64 0)),(.sc (.int .i64 0))] [(0,(1,(.tmp 22))),(1,(1,(.tmp 23)))]),none⟩,⟨(some 8),(.alloc [(.sc (.int .i64 0)),(.sc (.int .i64 0))]),none⟩,⟨none,(.store 2 (.tmp 8) (.tmp 24)),none⟩] true [(2,7),(4,7),(5,7)]) (.seq (.region [⟨(some 26),(.mov (.tmp 0)),none⟩,⟨(some 27),(.load true 2 (.tmp 8)),none⟩,⟨(some 28),(.call (.func 51) [(.tmp 26),(.tmp 27)]),none⟩,⟨(some 25),(.mov (.tmp 28)),none⟩,⟨(some 29),(.ext (.tmp 25) 0),none⟩,⟨(some 30),(.ext (.tmp 25) 1),none⟩,⟨(some 5),(.mov (.tmp 29)),none⟩,⟨(some 6),(.mov (.tmp 30)),none⟩] false []) (.seq (.region [⟨(some 31),(.faddr 0 (.tmp 8)),none⟩,⟨(some 32),(.load false 1 (.tmp 31)),none⟩,⟨(some 33),(.mov (.tmp 5)),none⟩,⟨(some 34),(.mov (.tmp 6)),none⟩,⟨(some 4),(.mov (.tmp 32)),none⟩,⟨(some 5),(.mov (.tmp 33)),none⟩,⟨(some 6),(.mov (.tmp 34)),none⟩] false []) .ret)))))))
def r54 : List ARes:=[(.tmp 4),(.tmp 5),(.tmp 6)]
def c55L0 : ACode:=(.seq (.region [⟨(some 15),(.bin .lss 3 (.tmp 14) (.tmp 13)),none⟩] false []) (.seq (.cond (.tmp 15) .skip (.exit 0)) (.seq (.block 1 (.seq (.region [⟨(some 16),(.iaddr none 5 (.tmp 12) (.tmp 14)),none⟩,⟨(some 17),(.load true 5 (.tmp 16)),none⟩,⟨(some 9),(.alloc [(.sc (.int .i64 0)),(.sc (.int .i64 0)),(.sc (.int .i64 0)),(.sc (.int .i64 0)),(.sc (.int .i64 0))]),none⟩,⟨none,(.store 5 (.tmp 9) (.tmp 17)),none⟩] false []) (.seq (.seq (.region [⟨(some 18),(.faddr 0 (.tmp 9)),none⟩,⟨(some 19),(.load false 1 (.tmp 18)),none⟩,⟨(some 20),(.bin .neq 3 (.tmp 19) (.const (.int .i64 2))),none⟩,⟨(some 21),(.mov (.tmp 20)),none⟩,⟨(some 22),(.faddr 2 (.tmp 9)),(some ((some 21),true))⟩,⟨(some 23),(.load false 1 (.tmp 22)),(some ((some 21),true))⟩,⟨(some 24),(.bin .gtr 3 (.tmp 23) (.const (.int .i64 60))),(some ((some 21),true))⟩,⟨(some 25),(.pick (.tmp 21) (.tmp 24) (.const (.bool false))),none⟩,⟨(some 26),(.mov (.tmp 25)),none⟩,⟨(some 27),(.faddr 2 (.tmp 9)),(some ((some 26),true))⟩,⟨(some 28),(.load false 1 (.tmp 27)),(some ((some 26),true))⟩,⟨(some 29),(.bin .leq 3 (.tmp 28) (.const (.int .i64 16384))),(some ((some 26),true))⟩,⟨(some 30),(.pick (.tmp 26) (.tmp 29) (.const (.bool false))),none⟩,⟨(some 31),(.mov (.tmp 30)),none⟩,⟨(some 32),(.faddr 0 (.tmp 9)),(some ((some 31),false))⟩,⟨(some 33),(.load false 1 (.tmp 32)),(some ((some 31),false))⟩,⟨(some 34),(.bin .eql 3 (.tmp 33) (.const (.int .i64 2))),(some ((some 31),false))⟩,⟨(some 35),(.mov (.tmp 34)),(some ((some 31),false))⟩,⟨(some 36),(.faddr 1 (.tmp 9)),(some ((some 35),true))⟩,⟨(some 37),(.load false 1 (.tmp 36)),(some ((some 35),true))⟩,⟨(some 38),(.bin .lss 3 (.tmp 37) (.const (.int .i64 0))),(some ((some 35),true))⟩,⟨(some 39),(.pick (.tmp 35) (.tmp 38) (.const (.bool false))),(some ((some 31),false))⟩,⟨(some 40),(.pick (.tmp 31) (.const (.bool true)) (.tmp 39)),none⟩] false []) (.cond (.tmp 40) (.seq (.region [⟨(some 6),(.mov (.const (.bool false))),none⟩] false []) .ret) .skip)) (.region [⟨(some 41),(.mov (.tmp 7)),none⟩,⟨(some 42),(.bin .add 3 (.tmp 41) (.const (.int .i64 1))),none⟩,⟨(some 7),(.mov (.tmp 42)),none⟩] false [])))) (.region [⟨(some 43),(.bin .add 3 (.tmp 14) (.const (.int .i64 1))),none⟩,⟨(some 14),(.mov (.tmp 43)),none⟩] false []))))
def c55L1 : ACode:=(.seq (.region [⟨(some 53),(.bin .lss 3 (.tmp 52) (.tmp 51)),none⟩] false []) (.seq (.cond (.tmp 53) .skip (.exit 2)) (.seq (.block 3 (.seq (.region [⟨(some 54),(.iaddr none 2 (.tmp 50) (.tmp 52)),none⟩,⟨(some 55),(.load true 2 (.tmp 54)),none⟩,⟨(some 11),(.alloc [(.sc (.int .i64 0)),(.sc (.int .i64 0))]),none⟩,⟨none,(.store 2 (.tmp 11) (.tmp 55)),none⟩] false []) (.seq (.region [⟨(some 56),(.load true 2 (.tmp 11)),none⟩,⟨(some 57),(.call (.func 49) [(.tmp 56)]),none⟩,⟨(some 58),(.mov (.tmp 57)),none⟩,⟨(some 59),(.faddr 0 (.tmp 11)),(some ((some 58),true))⟩,⟨(some 60),(.load false 1 (.tmp 59)),(some ((some 58),true))⟩,⟨(some 61),(.faddr 1 (.tmp 11)),(some ((some 58),true))⟩,⟨(some 62),(.load false 1 (.tmp 61)),(some ((some 58),true))⟩,⟨(some 63),(.bin .add 3 (.tmp 60) (.tmp 62)),(some ((some 58),true))⟩,⟨(some 64),(.bin .gtr 3 (.tmp 63) (.const (.int .i64 600))),(some ((some 58),true))⟩,⟨(some 65),(.pick (.tmp 58) (.tmp 64) (.const (.bool false))),none⟩] false []) (.cond (.tmp 65) (.seq (.region [⟨(some 6),(.mov (.const (.bool false))),none⟩] false []) .ret) .skip)))) (.region [⟨(some 66),(.bin .add 3 (.tmp 52) (.const (.int .i64 1))),none⟩,⟨(some 52),(.mov (.tmp 66)),none⟩] false []))))
def c55R2 : ACode:=(.seq (.region [⟨(some 67),(.mov (.tmp 7)),none⟩,⟨(some 68),(.bin .leq 3 (.tmp 67) (.const (.int .i64 60))),none⟩,⟨(some 69),(.mov (.tmp 68)),none⟩,⟨(some 70),(.mov (.tmp 1)),(some ((some 69),true))⟩,⟨(some 71),(.bin .leq 3 (.tmp 70) (.const (.int .i64 600))),(some ((some 69),true))⟩,⟨(some 72),(.pick (.tmp 69) (.tmp 71) (.const (.bool false))),none⟩,⟨(some 6),(.mov (.tmp 72)),none⟩] false []) .ret)
def c55R3 : ACode:=(.seq (.seq (.region [⟨(some 44),(.bslice 2 [(.sc (.int .i64 0)),(.sc (.int .i64 0))] 0 []),none⟩,⟨(some 45),(.faddr 0 (.tmp 3)),none⟩,⟨(some 46),(.load false 1 (.tmp 45)),none⟩,⟨(some 47),(.app 2 16 (.tmp 44) (.tmp 46)),none⟩,⟨(some 48),(.faddr 1 (.tmp 3)),none⟩,⟨(some 49),(.load false 1 (.tmp 48)),none⟩,⟨(some 50),(.app 2 16 (.tmp 47) (.tmp 49)),none⟩,⟨(some 51),(.len 0 (.tmp 50)),none⟩,⟨(some 52),(.mov (.const (.int .i64 0))),none⟩] true [(0,2),(0,5),(3,5)]) (.block 2 (.loop c55L1))) c55R2)
def c55 : ACode:=(.seq (.region [⟨(some 3),(.box 2 (.tmp 0)),none⟩,⟨(some 6),(.mov (.const (.bool false))),none⟩] false []) (.seq (.region [⟨(some 7),(.mov (.const (.int .i64 0))),none⟩] false []) (.seq (.seq (.region [⟨(some 12),(.mov (.tmp 2)),none⟩,⟨(some 13),(.len 0 (.tmp 12)),none⟩,⟨(some 14),(.mov (.const (.int .i64 0))),none⟩] false []) (.block 0 (.loop c55L0))) c55R3)))
def r55 : List ARes:=[(.tmp 6)]
def c56 : ACode:=(.seq (.region [⟨(some 0),(.mov (.const (.bool false))),none⟩] false []) (.seq (.region [⟨(some 11),(.build [(.sc (.int .i64 0)),(.sc (.int .i64 0))] [(0,(1,(.const (.int .i64 5)))),(1,(1,(.const (.int .i64 2))))]),none⟩,⟨(some 12),(.bslice 2 [(.sc (.int .i64 0)),(.sc (.int .i64 0))] 1 [(0,(.tmp 11))]),none⟩,⟨(some 13),(.build [(.sc (.slice none 0 0)),(.sc (.slice none 0 0))] [(0,(1,(.tmp 12)))]),none⟩,⟨(some 14),(.call (.func 57) [(.tmp 13),(.const (.int .i64 1)),(.const (.int .i64 8)),(.const (.int .i64 20))]),none⟩,⟨(some 10),(.mov (.tmp 14)),none⟩,⟨(some 15),(.ext (.tmp 10) 0),none⟩,⟨(some 16),(.ext (.tmp 10) 1),none⟩,⟨(some 1),(.mov (.tmp 15)),none⟩,⟨(some 2),(.mov (.tmp 16)),none⟩] false []) (.seq (.seq (.region [⟨(some 17),(.mov (.tmp 2)),none⟩,⟨(some 18),(.bin .neq 95 (.tmp 17) (.const (.int .i64 0))),none⟩,⟨(some 19),(.mov (.tmp 18)),none⟩,⟨(some 20),(.mov (.tmp 1)),(some ((some 19),false))⟩,⟨(some 21),(.isnil false 1 (.tmp 20)),(some ((some 19),false))⟩,⟨(some 22),(.pick (.tmp 19) (.const (.bool true)) (.tmp 21)),none⟩] false []) (.cond (.tmp 22) (.seq (.region [⟨(some 0),(.mov (.const (.bool false))),none⟩] false []) .ret) .skip)) (.seq (.region [⟨(some 24),(.mov (.tmp 1)),none⟩,⟨(some 25),(.call (.func 61) [(.tmp 24),(.const (.int .i64 2))]),none⟩,⟨(some 23),(.mov (.tmp 25)),none⟩,⟨(some 26),(.ext (.tmp 23) 0),none⟩,⟨(some 27),(.ext (.tmp 23) 1),none⟩,⟨(some 3),(.mov (.tmp 26)),none⟩,⟨(some 4),(.mov (.tmp 27)),none⟩] false []) (.seq (.region [⟨(some 29),(.mov (.tmp 1)),none⟩,⟨(some 30),(.call (.func 61) [(.tmp 29),(.const (.int .i64 1))]),none⟩,⟨(some 28),(.mov (.tmp 30)),none⟩,⟨(some 31),(.ext (.tmp 28) 0),none⟩,⟨(some 32),(.ext (.tmp 28) 1),none⟩,⟨(some 5),(.mov (.tmp 31)),none⟩,⟨(some 6),(.mov (.tmp 32)),none⟩] false []) (.seq (.region [⟨(some 33),(.mov (.tmp 1)),none⟩,⟨(some 34),(.build [(.sc (.int .i64 0)),(.sc (.int .i64 0))] [(0,(1,(.const (.int .i64 5)))),(1,(1,(.const (.int .i64 2))))]),none⟩,⟨(some 35),(.call (.func 64) [(.tmp 33),(.const (.int .i64 3)),(.tmp 34)]),none⟩,⟨(some 7),(.mov (.tmp 35)),none⟩] false []) (.seq (.region [⟨(some 36),(.mov (.tmp 1)),none⟩,⟨(some 37),(.build [(.sc (.int .i64 0)),(.sc (.int .i64 0))] [(0,(1,(.const (.int .i64 6)))),(1,(1,(.const (.int .i64 1))))]),none⟩,⟨(some 38),(.call (.func 64) [(.tmp 36),(.const (.int .i64 4)),(.tmp 37)]),none⟩,⟨(some 8),(.mov (.tmp 38)),none⟩] false []) (.seq (.region [⟨(some 39),(.mov (.tmp 1)),none⟩,⟨(some 40),(.call (.func 73) [(.tmp 39)]),none⟩,⟨(some 9),(.mov (.tmp 40)),none⟩] false []) (.seq (.region [⟨(some 41),(.mov (.tmp 1)),none⟩,⟨(some 42),(.call (.func 65) [(.tmp 41),(.const (.int .i64 5)),(.const (.int .i64 9))]),none⟩] false []) (.seq (.seq (.region [⟨(some 43),(.mov (.tmp 9)),none⟩,⟨(some 44),(.isnil false 1 (.tmp 43)),none⟩] false []) (.cond (.tmp 44) (.seq (.region [⟨(some 0),(.mov (.const (.bool false))),none⟩] false []) .ret) .skip)) (.seq (.region [⟨(some 45),(.mov (.tmp 3)),none⟩,⟨(some 46),(.bin .eql 3 (.tmp 45) (.const (.int .i64 5))),none⟩,⟨(some 47),(.mov (.tmp 46)),none⟩,⟨(some 48),(.mov (.tmp 4)),(some ((some 47),true))⟩,⟨(some 49),(.bin .eql 95 (.tmp 48) (.const (.int .i64 0))),(some ((some 47),true))⟩,⟨(some 50),(.pick (.tmp 47) (.tmp 49) (.const (.bool false))),none⟩,⟨(some 51),(.mov (.tmp 50)),none⟩,⟨(some 52),(.mov (.tmp 5)),(some ((some 51),true))⟩,⟨(some 53),(.bin .eql 3 (.tmp 52) (.const (.int .i64 8))),(some ((some 51),true))⟩,⟨(some 54),(.pick (.tmp 51) (.tmp 53) (.const (.bool false))),none⟩,⟨(some 55),(.mov (.tmp 54)),none⟩,⟨(some 56),(.mov (.tmp 6)),(some ((some 55),true))⟩,⟨(some 57),(.bin .eql 95 (.tmp 56) (.const (.int .i64 0))),(some ((some 55),true))⟩,⟨(some 58),(.pick (.tmp 55) (.tmp 57) (.const (.bool false))),none⟩,⟨(some 59),(.mov (.tmp 58)),none⟩,⟨(some 60),(.mov (.tmp 7)),(some ((some 59),true))⟩,⟨(some 61),(.bin .eql 95 (.tmp 60) (.const (.int .i64 0))),(some ((some 59),true))⟩,⟨(some 62),(.pick (.tmp 59) (.tmp 61) (.const (.bool false))),none⟩,⟨(some 63),(.mov (.tmp 62)),none⟩,⟨(some 64),(.mov (.tmp 8)),(some ((some 63),true))⟩,⟨(some 65),(.bin .eql 95 (.tmp 64) (.const (.int .i64 110))),(some ((some 63),true))⟩,⟨(some 66),(.pick (.tmp 63) (.tmp 65) (.const (.bool false))),none⟩,⟨(some 67),(.mov (.tmp 66)),none⟩,⟨(some 68),(.mov (.tmp 1)),(some ((some 67),true))⟩,⟨(some 69),(.call (.func 59) [(.tmp 68)]),(some ((some 67),true))⟩,⟨(some 70),(.bin .eql 3 (.tmp 69) (.const (.int .i64 9))),(some ((some 67),true))⟩,⟨(some 71),(.pick (.tmp 67) (.tmp 70) (.const (.bool false))),none⟩,⟨(some 72),(.mov (.tmp 71)),none⟩,⟨(some 73),(.mov (.tmp 1)),(some ((some 72),true))⟩,⟨(some 74),(.call (.func 60) [(.tmp 73)]),(some ((some 72),true))⟩,⟨(some 75),(.call (.func 42) [(.tmp 74)]),(some ((some 72),true))⟩,⟨(some 76),(.bin .eql 3 (.tmp 75) (.const (.int .i64 2))),(some ((some 72),true))⟩,⟨(some 77),(.pick (.tmp 72) (.tmp 76) (.const (.bool false))),none⟩,⟨(some 78),(.mov (.tmp 77)),none⟩,⟨(some 79),(.mov (.tmp 1)),(some ((some 78),true))⟩,⟨(some 80),(.call (.func 63) [(.tmp 79)]),(some ((some 78),true))⟩,⟨(some 81),(.call (.func 42) [(.tmp 80)]),(some ((some 78),true))⟩,⟨(some 82),(.bin .eql 3 (.tmp 81) (.const (.int .i64 0))),(some ((some 78),true))⟩,⟨(some 83),(.pick (.tmp 78) (.tmp 82) (.const (.bool false))),none⟩,⟨(some 84),(.mov (.tmp 83)),none⟩,⟨(some 85),(.mov (.tmp 9)),(some ((some 84),true))⟩,⟨(some 86),(.call (.func 63) [(.tmp 85)]),(some ((some 84),true))⟩,⟨(some 87),(.call (.func 42) [(.tmp 86)]),(some ((some 84),true))⟩,⟨(some 88),(.bin .eql 3 (.tmp 87) (.const (.int .i64 2))),(some ((some 84),true))⟩,⟨(some 89),(.pick (.tmp 84) (.tmp 88) (.const (.bool false))),none⟩,⟨(some 90),(.mov (.tmp 89)),none⟩,⟨(some 91),(.mov (.tmp 9)),(some ((some 90),true))⟩,⟨(some 92),(.call (.func 74) [(.tmp 91),(.const (.int .i64 3))]),(some ((some 90),true))⟩,⟨(some 93),(.field false 1 1 (.tmp 92)),(some ((some 90),true))⟩,⟨(some 94),(.call (.func 42) [(.tmp 93)]),(some ((some 90),true))⟩,⟨(some 95),(.bin .eql 3 (.tmp 94) (.const (.int .i64 2))),(some ((some 90),true))⟩,⟨(some 96),(.pick (.tmp 90) (.tmp 95) (.const (.bool false))),none⟩,⟨(some 0),(.mov (.tmp 96)),none⟩] false []) .ret)))))))))))
def r56 : List ARes:=[(.tmp 0)]
def c57 : ACode:=(.seq (.region [⟨(some 4),(.box 2 (.tmp 0)),none⟩,⟨(some 8),(.mov (.const (.pointer none))),none⟩,⟨(some 9),(.mov (.const (.int .i64 0))),none⟩] false []) (.seq (.region [⟨(some 11),(.faddr 0 (.tmp 4)),none⟩,⟨(some 12),(.load false 1 (.tmp 11)),none⟩,⟨(some 13),(.call (.func 43) [(.tmp 12)]),none⟩,⟨(some 14),(.mov (.tmp 2)),none⟩,⟨(some 15),(.bin .leq 3 (.tmp 13) (.tmp 14)),none⟩,⟨(some 16),(.mov (.tmp 15)),none⟩,⟨(some 17),(.faddr 1 (.tmp 4)),(some ((some 16),true))⟩,⟨(some 18),(.load false 1 (.tmp 17)),(some ((some 16),true))⟩,⟨(some 19),(.call (.func 43) [(.tmp 18)]),(some ((some 16),true))⟩,⟨(some 20),(.mov (.tmp 2)),(some ((some 16),true))⟩,⟨(some 21),(.bin .leq 3 (.tmp 19) (.tmp 20)),(some ((some 16),true))⟩,⟨(some 22),(.pick (.tmp 16) (.tmp 21) (.const (.bool false))),none⟩,⟨(some 10),(.mov (.tmp 22)),none⟩] false []) (.seq (.seq (.region [⟨(some 23),(.load true 2 (.tmp 4)),none⟩,⟨(some 24),(.call (.func 118) [(.tmp 23)]),none⟩,⟨(some 25),(.un .not (.tmp 24)),none⟩,⟨(some 26),(.mov (.tmp 25)),none⟩,⟨(some 27),(.mov (.tmp 10)),(some ((some 26),false))⟩,⟨(some 28),(.un .not (.tmp 27)),(some ((some 26),false))⟩,⟨(some 29),(.pick (.tmp 26) (.const (.bool true)) (.tmp 28)),none⟩,⟨(some 30),(.mov (.tmp 29)),none⟩,⟨(some 31),(.mov (.tmp 2)),(some ((some 30),false))⟩,⟨(some 32),(.bin .lss 3 (.tmp 31) (.const (.int .i64 2))),(some ((some 30),false))⟩,⟨(some 33),(.pick (.tmp 30) (.const (.bool true)) (.tmp 32)),none⟩,⟨(some 34),(.mov (.tmp 33)),none⟩,⟨(some 35),(.mov (.tmp 2)),(some ((some 34),false))⟩,⟨(some 36),(.mov (.tmp 3)),(some ((some 34),false))⟩,⟨(some 37),(.bin .gtr 3 (.tmp 35) (.tmp 36)),(some ((some 34),false))⟩,⟨(some 38),(.pick (.tmp 34) (.const (.bool true)) (.tmp 37)),none⟩,⟨(some 39),(.mov (.tmp 38)),none⟩,⟨(some 40),(.mov (.tmp 3)),(some ((some 39),false))⟩,⟨(some 41),(.bin .gtr 3 (.tmp 40) (.const (.int .i64 16384))),(some ((some 39),false))⟩,⟨(some 42),(.pick (.tmp 39) (.const (.bool true)) (.tmp 41)),none⟩,⟨(some 43),(.mov (.tmp 42)),none⟩,⟨(some 44),(.mov (.tmp 1)),(some ((some 43),false))⟩,⟨(some 45),(.bin .lss 3 (.tmp 44) (.const (.int .i64 0))),(some ((some 43),false))⟩,⟨(some 46),(.pick (.tmp 43) (.const (.bool true)) (.tmp 45)),none⟩] false []) (.cond (.tmp 46) (.seq (.region [⟨(some 8),(.mov (.const (.pointer none))),none⟩,⟨(some 9),(.mov (.const (.int .i64 1))),none⟩] false []) .ret) .skip)) (.seq (.region [⟨(some 47),(.mov (.tmp 2)),none⟩,⟨(some 48),(.mov (.tmp 3)),none⟩,⟨(some 49),(.faddr 0 (.tmp 4)),none⟩,⟨(some 50),(.load false 1 (.tmp 49)),none⟩,⟨(some 51),(.call (.func 111) [(.tmp 50)]),none⟩,⟨(some 52),(.mkmap (some .i64)),none⟩,⟨(some 53),(.mov (.tmp 1)),none⟩,⟨(some 54),(.faddr 1 (.tmp 4)),none⟩,⟨(some 55),(.load false 1 (.tmp 54)),none⟩,⟨(some 56),(.call (.func 111) [(.tmp 55)]),none⟩,⟨none,(.mput (some .i64) (.tmp 52) (.tmp 53) (.tmp 56)),none⟩,⟨(some 57),(.mov (.tmp 52)),none⟩,⟨(some 58),(.build [(.sc (.int .i64 0)),(.sc (.int .i64 0)),(.sc (.slice none 0 0)),(.sc (.map none))] [(0,(1,(.tmp 47))),(1,(1,(.tmp 48))),(2,(1,(.tmp 51))),(3,(1,(.tmp 57)))]),none⟩,⟨(some 59),(.box 4 (.tmp 58)),none⟩,⟨(some 8),(.mov (.tmp 59)),none⟩,⟨(some 9),(.mov (.const (.int .i64 0))),none⟩] true [(3,5),(4,5),(4,8),(5,8),(5,9)]) .ret))))
def r57 : List ARes:=[(.tmp 8),(.tmp 9)]
def c58L0 : ACode:=(.seq (.region [⟨(some 12),(.bin .lss 3 (.tmp 11) (.tmp 10)),none⟩] false []) (.seq (.cond (.tmp 12) .skip (.exit 0)) (.seq (.block 1 (.seq (.region [⟨(some 13),(.iaddr none 2 (.tmp 9) (.tmp 11)),none⟩,⟨(some 14),(.load true 2 (.tmp 13)),none⟩,⟨(some 5),(.alloc [(.sc (.int .i64 0)),(.sc (.int .i64 0))]),none⟩,⟨none,(.store 2 (.tmp 5) (.tmp 14)),none⟩] false []) (.region [⟨(some 15),(.faddr 0 (.tmp 3)),none⟩,⟨(some 16),(.load false 1 (.tmp 15)),none⟩,⟨(some 17),(.load true 2 (.tmp 5)),none⟩,⟨(some 18),(.bslice 2 [(.sc (.int .i64 0)),(.sc (.int .i64 0))] 1 [(0,(.tmp 17))]),none⟩,⟨(some 19),(.app 2 16 (.tmp 16) (.tmp 18)),none⟩,⟨(some 20),(.faddr 0 (.tmp 3)),none⟩,⟨none,(.store 1 (.tmp 20) (.tmp 19)),none⟩] false []))) (.region [⟨(some 21),(.bin .add 3 (.tmp 11) (.const (.int .i64 1))),none⟩,⟨(some 11),(.mov (.tmp 21)),none⟩] false []))))
def c58L1 : ACode:=(.seq (.region [⟨(some 26),(.bin .lss 3 (.tmp 25) (.tmp 24)),none⟩] false []) (.seq (.cond (.tmp 26) .skip (.exit 2)) (.seq (.block 3 (.seq (.region [⟨(some 27),(.iaddr none 2 (.tmp 23) (.tmp 25)),none⟩,⟨(some 28),(.load true 2 (.tmp 27)),none⟩,⟨(some 7),(.alloc [(.sc (.int .i64 0)),(.sc (.int .i64 0))]),none⟩,⟨none,(.store 2 (.tmp 7) (.tmp 28)),none⟩] false []) (.region [⟨(some 29),(.faddr 1 (.tmp 3)),none⟩,⟨(some 30),(.load false 1 (.tmp 29)),none⟩,⟨(some 31),(.load true 2 (.tmp 7)),none⟩,⟨(some 32),(.bslice 2 [(.sc (.int .i64 0)),(.sc (.int .i64 0))] 1 [(0,(.tmp 31))]),none⟩,⟨(some 33),(.app 2 16 (.tmp 30) (.tmp 32)),none⟩,⟨(some 34),(.faddr 1 (.tmp 3)),none⟩,⟨none,(.store 1 (.tmp 34) (.tmp 33)),none⟩] false []))) (.region [⟨(some 35),(.bin .add 3 (.tmp 25) (.const (.int .i64 1))),none⟩,⟨(some 25),(.mov (.tmp 35)),none⟩] false []))))
def c58R2 : ACode:=(.seq (.region [⟨(some 36),(.load true 2 (.tmp 3)),none⟩,⟨none,(.store 2 (.tmp 2) (.tmp 36)),none⟩] false []) .ret)
def c58R3 : ACode:=(.seq (.seq (.region [⟨(some 22),(.faddr 1 (.tmp 1)),none⟩,⟨(some 23),(.load false 1 (.tmp 22)),none⟩,⟨(some 24),(.len 0 (.tmp 23)),none⟩,⟨(some 25),(.mov (.const (.int .i64 0))),none⟩] false []) (.block 2 (.loop c58L1))) c58R2)
def c58 : ACode:=(.seq (.region [⟨(some 1),(.box 2 (.tmp 0)),none⟩,⟨(some 2),(.alloc [(.sc (.slice none 0 0)),(.sc (.slice none 0 0))]),none⟩] false []) (.seq (.region [⟨(some 3),(.alloc [(.sc (.slice none 0 0)),(.sc (.slice none 0 0))]),none⟩] false []) (.seq (.seq (.region [⟨(some 8),(.faddr 0 (.tmp 1)),none⟩,⟨(some 9),(.load false 1 (.tmp 8)),none⟩,⟨(some 10),(.len 0 (.tmp 9)),none⟩,⟨(some 11),(.mov (.const (.int .i64 0))),none⟩] false []) (.block 0 (.loop c58L0))) c58R3)))
def r58 : List ARes:=[(.cell 2 true 2)]
def c59 : ACode:=(.seq (.region [⟨(some 2),(.mov (.const (.int .i64 0))),none⟩] false []) (.seq (.region [⟨(some 3),(.mov (.tmp 0)),none⟩,⟨(some 4),(.nilck (.tmp 3)),none⟩,⟨(some 5),(.faddr 0 (.tmp 4)),none⟩,⟨(some 6),(.load false 1 (.tmp 5)),none⟩,⟨(some 2),(.mov (.tmp 6)),none⟩] false []) .ret))
def r59 : List ARes:=[(.tmp 2)]
def c60 : ACode:=(.seq (.region [⟨(some 2),(.mov (.const (.slice none 0 0))),none⟩] false []) (.seq (.region [⟨(some 3),(.mov (.tmp 0)),none⟩,⟨(some 4),(.nilck (.tmp 3)),none⟩,⟨(some 5),(.faddr 2 (.tmp 4)),none⟩,⟨(some 6),(.load false 1 (.tmp 5)),none⟩,⟨(some 7),(.call (.func 111) [(.tmp 6)]),none⟩,⟨(some 2),(.mov (.tmp 7)),none⟩] false []) .ret))
def r60 : List ARes:=[(.tmp 2)]
def c61 : ACode:=(.seq (.region [⟨(some 4),(.mov (.const (.int .i64 0))),none⟩,⟨(some 5),(.mov (.const (.int .i64 0))),none⟩] false []) (.seq (.seq (.region [⟨(some 11),(.mov (.tmp 1)),none⟩,⟨(some 12),(.bin .lss 3 (.tmp 11) (.const (.int .i64 1))),none⟩] false []) (.cond (.tmp 12) (.seq (.region [⟨(some 4),(.mov (.const (.int .i64 0))),none⟩,⟨(some 5),(.mov (.const (.int .i64 1))),none⟩] false []) .ret) .skip)) (.seq (.seq (.region [⟨(some 14),(.mov (.tmp 0)),none⟩,⟨(some 15),(.nilck (.tmp 14)),none⟩,⟨(some 16),(.faddr 2 (.tmp 15)),none⟩,⟨(some 17),(.load false 1 (.tmp 16)),none⟩,⟨(some 18),(.mov (.tmp 1)),none⟩,⟨(some 19),(.call (.func 54) [(.tmp 17),(.tmp 18)]),none⟩,⟨(some 13),(.mov (.tmp 19)),none⟩,⟨(some 20),(.ext (.tmp 13) 0),none⟩,⟨(some 21),(.ext (.tmp 13) 1),none⟩,⟨(some 22),(.ext (.tmp 13) 2),none⟩,⟨(some 6),(.mov (.tmp 20)),none⟩,⟨(some 7),(.mov (.tmp 21)),none⟩,⟨(some 8),(.mov (.tmp 22)),none⟩] false []) (.seq (.region [⟨(some 23),(.mov (.tmp 8)),none⟩] false []) (.cond (.tmp 23) (.seq (.region [⟨(some 24),(.mov (.tmp 0)),none⟩,⟨(some 25),(.mov (.tmp 7)),none⟩,⟨(some 26),(.nilck (.tmp 24)),none⟩,⟨(some 27),(.faddr 2 (.tmp 26)),none⟩,⟨none,(.store 1 (.tmp 27) (.tmp 25)),none⟩] false []) (.seq (.region [⟨(some 28),(.mov (.tmp 6)),none⟩,⟨(some 4),(.mov (.tmp 28)),none⟩,⟨(some 5),(.mov (.const (.int .i64 0))),none⟩] false []) .ret)) .skip))) (.seq (.region [⟨(some 29),(.mov (.tmp 0)),none⟩,⟨(some 30),(.call (.func 119) [(.tmp 29)]),none⟩,⟨(some 9),(.mov (.tmp 30)),none⟩] false []) (.seq (.region [⟨(some 31),(.mov (.tmp 0)),none⟩,⟨(some 32),(.nilck (.tmp 31)),none⟩,⟨(some 33),(.faddr 0 (.tmp 32)),none⟩,⟨(some 34),(.load false 1 (.tmp 33)),none⟩,⟨(some 35),(.mov (.tmp 9)),none⟩,⟨(some 36),(.bin .sub 3 (.tmp 34) (.tmp 35)),none⟩,⟨(some 10),(.mov (.tmp 36)),none⟩] false []) (.seq (.seq (.region [⟨(some 37),(.mov (.tmp 1)),none⟩,⟨(some 38),(.mov (.tmp 0)),none⟩,⟨(some 39),(.nilck (.tmp 38)),none⟩,⟨(some 40),(.faddr 1 (.tmp 39)),none⟩,⟨(some 41),(.load false 1 (.tmp 40)),none⟩,⟨(some 42),(.mov (.tmp 10)),none⟩,⟨(some 43),(.bin .sub 3 (.tmp 41) (.tmp 42)),none⟩,⟨(some 44),(.bin .gtr 3 (.tmp 37) (.tmp 43)),none⟩] false []) (.cond (.tmp 44) (.seq (.region [⟨(some 4),(.mov (.const (.int .i64 0))),none⟩,⟨(some 5),(.mov (.const (.int .i64 12))),none⟩] false []) .ret) .skip)) (.seq (.seq (.region [⟨(some 45),(.mov (.tmp 9)),none⟩,⟨(some 46),(.bin .gtr 3 (.tmp 45) (.const (.int .i64 0))),none⟩] false []) (.cond (.tmp 46) (.region [⟨(some 47),(.mov (.tmp 0)),none⟩,⟨(some 48),(.mov (.tmp 0)),none⟩,⟨(some 49),(.nilck (.tmp 48)),none⟩,⟨(some 50),(.faddr 2 (.tmp 49)),none⟩,⟨(some 51),(.load false 1 (.tmp 50)),none⟩,⟨(some 52),(.mov (.tmp 0)),none⟩,⟨(some 53),(.nilck (.tmp 52)),none⟩,⟨(some 54),(.faddr 2 (.tmp 53)),none⟩,⟨(some 55),(.load false 1 (.tmp 54)),none⟩,⟨(some 56),(.len 0 (.tmp 55)),none⟩,⟨(some 57),(.bin .sub 3 (.tmp 56) (.const (.int .i64 1))),none⟩,⟨(some 58),(.slice 2 (.tmp 51) none (some (.tmp 57)) none),none⟩,⟨(some 59),(.nilck (.tmp 47)),none⟩,⟨(some 60),(.faddr 2 (.tmp 59)),none⟩,⟨none,(.store 1 (.tmp 60) (.tmp 58)),none⟩] true []) .skip)) (.seq (.region [⟨(some 61),(.mov (.tmp 0)),none⟩,⟨(some 62),(.mov (.tmp 10)),none⟩,⟨(some 63),(.mov (.tmp 1)),none⟩,⟨(some 64),(.bin .add 3 (.tmp 62) (.tmp 63)),none⟩,⟨(some 65),(.nilck (.tmp 61)),none⟩,⟨(some 66),(.faddr 0 (.tmp 65)),none⟩,⟨none,(.store 1 (.tmp 66) (.tmp 64)),none⟩] false []) (.seq (.region [⟨(some 67),(.mov (.tmp 10)),none⟩,⟨(some 4),(.mov (.tmp 67)),none⟩,⟨(some 5),(.mov (.const (.int .i64 0))),none⟩] false []) .ret)))))))))
def r61 : List ARes:=[(.tmp 4),(.tmp 5)]
def c62L0 : ACode:=(.seq (.region [⟨(some 9),(.bin .lss 3 (.tmp 8) (.tmp 7)),none⟩] false []) (.seq (.cond (.tmp 9) .skip (.exit 0)) (.seq (.block 1 (.seq (.region [⟨(some 10),(.iaddr none 2 (.tmp 6) (.tmp 8)),none⟩,⟨(some 11),(.load true 2 (.tmp 10)),none⟩,⟨(some 5),(.alloc [(.sc (.int .i64 0)),(.sc (.int .i64 0))]),none⟩,⟨none,(.store 2 (.tmp 5) (.tmp 11)),none⟩] false []) (.region [⟨(some 12),(.mov (.tmp 3)),none⟩,⟨(some 13),(.load true 2 (.tmp 5)),none⟩,⟨(some 14),(.bslice 2 [(.sc (.int .i64 0)),(.sc (.int .i64 0))] 1 [(0,(.tmp 13))]),none⟩,⟨(some 15),(.app 2 16 (.tmp 12) (.tmp 14)),none⟩,⟨(some 3),(.mov (.tmp 15)),none⟩] false []))) (.region [⟨(some 16),(.bin .add 3 (.tmp 8) (.const (.int .i64 1))),none⟩,⟨(some 8),(.mov (.tmp 16)),none⟩] false []))))
def c62R1 : ACode:=(.seq (.region [⟨(some 17),(.mov (.tmp 3)),none⟩,⟨(some 2),(.mov (.tmp 17)),none⟩] false []) .ret)
def c62 : ACode:=(.seq (.region [⟨(some 2),(.mov (.const (.slice none 0 0))),none⟩] false []) (.seq (.region [⟨(some 3),(.mov (.const (.slice none 0 0))),none⟩] false []) (.seq (.seq (.region [⟨(some 6),(.mov (.tmp 0)),none⟩,⟨(some 7),(.len 0 (.tmp 6)),none⟩,⟨(some 8),(.mov (.const (.int .i64 0))),none⟩] false []) (.block 0 (.loop c62L0))) c62R1)))
def r62 : List ARes:=[(.tmp 2)]
def c63 : ACode:=(.seq (.region [⟨(some 2),(.mov (.const (.slice none 0 0))),none⟩] false []) (.seq (.region [⟨(some 3),(.mov (.tmp 0)),none⟩,⟨(some 4),(.call (.func 120) [(.tmp 3),(.func 121)]),none⟩,⟨(some 2),(.mov (.tmp 4)),none⟩] false []) .ret))
def r63 : List ARes:=[(.tmp 2)]
def c64 : ACode:=(.seq (.region [⟨(some 5),(.box 2 (.tmp 2)),none⟩,⟨(some 6),(.mov (.const (.int .i64 0))),none⟩] false []) (.seq (.region [⟨(some 8),(.load true 2 (.tmp 5)),none⟩,⟨(some 9),(.bslice 2 [(.sc (.int .i64 0)),(.sc (.int .i64 0))] 1 [(0,(.tmp 8))]),none⟩,⟨(some 7),(.mov (.tmp 9)),none⟩] false []) (.seq (.block 0 (.seq (.region [⟨(some 11),(.mov (.tmp 1)),none⟩,⟨(some 12),(.bin .lss 3 (.tmp 11) (.const (.int .i64 0))),none⟩,⟨(some 13),(.mov (.tmp 12)),none⟩,⟨(some 14),(.mov (.tmp 7)),(some ((some 13),false))⟩,⟨(some 15),(.call (.func 40) [(.tmp 14)]),(some ((some 13),false))⟩,⟨(some 16),(.un .not (.tmp 15)),(some ((some 13),false))⟩,⟨(some 17),(.pick (.tmp 13) (.const (.bool true)) (.tmp 16)),none⟩,⟨(some 18),(.mov (.tmp 17)),none⟩,⟨(some 19),(.faddr 0 (.tmp 5)),(some ((some 18),false))⟩,⟨(some 20),(.load false 1 (.tmp 19)),(some ((some 18),false))⟩,⟨(some 21),(.bin .lss 3 (.tmp 20) (.const (.int .i64 2))),(some ((some 18),false))⟩,⟨(some 22),(.pick (.tmp 18) (.const (.bool true)) (.tmp 21)),none⟩,⟨(some 23),(.mov (.tmp 22)),none⟩,⟨(some 24),(.mov (.tmp 7)),(some ((some 23),false))⟩,⟨(some 25),(.call (.func 43) [(.tmp 24)]),(some ((some 23),false))⟩,⟨(some 26),(.mov (.tmp 0)),(some ((some 23),false))⟩,⟨(some 27),(.nilck (.tmp 26)),(some ((some 23),false))⟩,⟨(some 28),(.faddr 0 (.tmp 27)),(some ((some 23),false))⟩,⟨(some 29),(.load false 1 (.tmp 28)),(some ((some 23),false))⟩,⟨(some 30),(.bin .gtr 3 (.tmp 25) (.tmp 29)),(some ((some 23),false))⟩,⟨(some 31),(.pick (.tmp 23) (.const (.bool true)) (.tmp 30)),none⟩,⟨(some 10),(.mov (.tmp 31)),none⟩] true [(14,18)]) (.cond (.tmp 10) (.seq (.region [⟨(some 6),(.mov (.const (.int .i64 1))),none⟩] false []) .ret) (.seq (.region [⟨(some 33),(.mov (.tmp 0)),none⟩,⟨(some 34),(.nilck (.tmp 33)),none⟩,⟨(some 35),(.faddr 2 (.tmp 34)),none⟩,⟨(some 36),(.load false 1 (.tmp 35)),none⟩,⟨(some 37),(.mov (.tmp 7)),none⟩,⟨(some 38),(.call (.func 53) [(.tmp 36),(.tmp 37)]),none⟩,⟨(some 39),(.mov (.tmp 38)),none⟩,⟨(some 40),(.mov (.tmp 0)),(some ((some 39),false))⟩,⟨(some 41),(.call (.func 63) [(.tmp 40)]),(some ((some 39),false))⟩,⟨(some 42),(.mov (.tmp 7)),(some ((some 39),false))⟩,⟨(some 43),(.call (.func 53) [(.tmp 41),(.tmp 42)]),(some ((some 39),false))⟩,⟨(some 44),(.pick (.tmp 39) (.const (.bool true)) (.tmp 43)),none⟩,⟨(some 32),(.mov (.tmp 44)),none⟩] false []) (.cond (.tmp 32) (.seq (.region [⟨(some 6),(.mov (.const (.int .i64 110))),none⟩] false []) .ret) .skip))))) (.seq (.region [⟨(some 45),(.mov (.tmp 0)),none⟩,⟨(some 46),(.nilck (.tmp 45)),none⟩,⟨(some 47),(.faddr 3 (.tmp 46)),none⟩,⟨(some 48),(.load false 1 (.tmp 47)),none⟩,⟨(some 49),(.mov (.tmp 1)),none⟩,⟨(some 50),(.mov (.tmp 0)),none⟩,⟨(some 51),(.nilck (.tmp 50)),none⟩,⟨(some 52),(.faddr 3 (.tmp 51)),none⟩,⟨(some 53),(.load false 1 (.tmp 52)),none⟩,⟨(some 54),(.mov (.tmp 1)),none⟩,⟨(some 55),(.look (some .i64) (.sc (.slice none 0 0)) (.tmp 53) (.tmp 54) false),none⟩,⟨(some 56),(.mov (.tmp 7)),none⟩,⟨(some 57),(.call (.func 52) [(.tmp 55),(.tmp 56)]),none⟩,⟨none,(.mput (some .i64) (.tmp 48) (.tmp 49) (.tmp 57)),none⟩] true [(3,12)]) (.seq (.region [⟨(some 6),(.mov (.const (.int .i64 0))),none⟩] false []) .ret)))))
def r64 : List ARes:=[(.tmp 6)]
def c65 : ACode:=(.seq (.region [⟨(some 4),(.box 1 (.tmp 1)),none⟩,⟨(some 5),(.box 1 (.tmp 2)),none⟩] false []) (.seq (.region [⟨(some 7),(.mkfn (.func 122) [] [(.tmp 4),(.tmp 5)]),none⟩,⟨(some 6),(.alloc [(.sc .nilFunc)]),none⟩,⟨none,(.store 1 (.tmp 6) (.tmp 7)),none⟩] false []) (.seq (.region [⟨(some 8),(.mov (.tmp 0)),none⟩,⟨(some 9),(.mov (.tmp 0)),none⟩,⟨(some 10),(.nilck (.tmp 9)),none⟩,⟨(some 11),(.faddr 2 (.tmp 10)),none⟩,⟨(some 12),(.load false 1 (.tmp 11)),none⟩,⟨(some 13),(.mov (.tmp 0)),none⟩,⟨(some 14),(.load false 1 (.tmp 6)),none⟩,⟨(some 15),(.call (.func 120) [(.tmp 13),(.tmp 14)]),none⟩,⟨(some 16),(.call (.func 52) [(.tmp 12),(.tmp 15)]),none⟩,⟨(some 17),(.nilck (.tmp 8)),none⟩,⟨(some 18),(.faddr 2 (.tmp 17)),none⟩,⟨none,(.store 1 (.tmp 18) (.tmp 16)),none⟩] true [(4,7)]) (.region [⟨(some 19),(.mov (.tmp 0)),none⟩,⟨(some 20),(.nilck (.tmp 19)),none⟩,⟨(some 21),(.faddr 3 (.tmp 20)),none⟩,⟨(some 22),(.load false 1 (.tmp 21)),none⟩,⟨(some 23),(.mkfn (.func 124) [] [(.tmp 6)]),none⟩,⟨(some 24),(.call (.func 123) [(.tmp 22),(.tmp 23)]),none⟩] false []))))
def r65 : List ARes:=[]
def c66L0 : ACode:=(.seq (.seq (.region [⟨(some 39),(.mov (.tmp 11)),none⟩,⟨(some 40),(.mov (.tmp 2)),none⟩,⟨(some 41),(.bin .lss 3 (.tmp 39) (.tmp 40)),none⟩] false []) (.cond (.tmp 41) .skip (.exit 0))) (.seq (.block 1 (.region [⟨(some 44),(.faddr 0 (.tmp 10)),none⟩,⟨(some 45),(.load false 1 (.tmp 44)),none⟩,⟨(some 46),(.bslice 1 [(.sc (.int .i64 0))] 1 [(0,(.const (.int .i64 (-2))))]),none⟩,⟨(some 47),(.app 1 8 (.tmp 45) (.tmp 46)),none⟩,⟨(some 48),(.faddr 0 (.tmp 10)),none⟩,⟨none,(.store 1 (.tmp 48) (.tmp 47)),none⟩] false [])) (.region [⟨(some 42),(.mov (.tmp 11)),none⟩,⟨(some 43),(.bin .add 3 (.tmp 42) (.const (.int .i64 1))),none⟩,⟨(some 11),(.mov (.tmp 43)),none⟩] false [])))
def c66L1 : ACode:=(.seq (.seq (.region [⟨(some 62),(.mov (.tmp 15)),none⟩,⟨(some 63),(.mov (.tmp 13)),none⟩,⟨(some 64),(.len 0 (.tmp 63)),none⟩,⟨(some 65),(.bin .lss 3 (.tmp 62) (.tmp 64)),none⟩] false []) (.cond (.tmp 65) .skip (.exit 4))) (.seq (.block 5 (.seq (.seq (.region [⟨(some 68),(.mov (.tmp 13)),none⟩,⟨(some 69),(.mov (.tmp 15)),none⟩,⟨(some 70),(.iaddr none 1 (.tmp 68) (.tmp 69)),none⟩,⟨(some 71),(.load false 1 (.tmp 70)),none⟩,⟨(some 72),(.mov (.tmp 2)),none⟩,⟨(some 73),(.bin .geq 3 (.tmp 71) (.tmp 72)),none⟩] false []) (.cond (.tmp 73) (.seq (.region [⟨(some 74),(.build [(.sc (.slice none 0 0)),(.sc (.int .i64 0))] []),none⟩,⟨none,(.store 2 (.tmp 8) (.tmp 74)),none⟩,⟨(some 9),(.mov (.const (.bool false))),none⟩] false []) .ret) .skip)) (.region [⟨(some 75),(.faddr 0 (.tmp 10)),none⟩,⟨(some 76),(.load false 1 (.tmp 75)),none⟩,⟨(some 77),(.mov (.tmp 13)),none⟩,⟨(some 78),(.mov (.tmp 15)),none⟩,⟨(some 79),(.iaddr none 1 (.tmp 77) (.tmp 78)),none⟩,⟨(some 80),(.load false 1 (.tmp 79)),none⟩,⟨(some 81),(.mov (.tmp 14)),none⟩,⟨(some 82),(.iaddr none 1 (.tmp 76) (.tmp 80)),none⟩,⟨none,(.store 1 (.tmp 82) (.tmp 81)),none⟩] true []))) (.region [⟨(some 66),(.mov (.tmp 15)),none⟩,⟨(some 67),(.bin .add 3 (.tmp 66) (.const (.int .i64 1))),none⟩,⟨(some 15),(.mov (.tmp 67)),none⟩] false [])))
def c66R2 : ACode:=(.region [⟨(some 51),(.mov (.tmp 12)),none⟩,⟨(some 52),(.bin .add 3 (.tmp 51) (.const (.int .i64 1))),none⟩,⟨(some 12),(.mov (.tmp 52)),none⟩] false [])
def c66L3 : ACode:=(.seq (.seq (.region [⟨(some 49),(.mov (.tmp 12)),none⟩,⟨(some 50),(.bin .lss 3 (.tmp 49) (.const (.int .i64 2))),none⟩] false []) (.cond (.tmp 50) .skip (.exit 2))) (.seq (.block 3 (.seq (.region [⟨(some 53),(.faddr 0 (.tmp 4)),none⟩,⟨(some 54),(.load false 1 (.tmp 53)),none⟩,⟨(some 55),(.call (.func 126) [(.tmp 54)]),none⟩,⟨(some 13),(.mov (.tmp 55)),none⟩] false []) (.seq (.region [⟨(some 14),(.mov (.const (.int .i64 (-1)))),none⟩] false []) (.seq (.seq (.region [⟨(some 56),(.mov (.tmp 12)),none⟩,⟨(some 57),(.bin .eql 3 (.tmp 56) (.const (.int .i64 1))),none⟩] false []) (.cond (.tmp 57) (.seq (.region [⟨(some 58),(.faddr 1 (.tmp 4)),none⟩,⟨(some 59),(.load false 1 (.tmp 58)),none⟩,⟨(some 60),(.call (.func 126) [(.tmp 59)]),none⟩,⟨(some 13),(.mov (.tmp 60)),none⟩] false []) (.region [⟨(some 61),(.mov (.tmp 1)),none⟩,⟨(some 14),(.mov (.tmp 61)),none⟩] false [])) .skip)) (.seq (.region [⟨(some 15),(.mov (.const (.int .i64 0))),none⟩] false []) (.block 4 (.loop c66L1))))))) c66R2))
def c66R4 : ACode:=(.seq (.region [⟨(some 83),(.load true 2 (.tmp 10)),none⟩,⟨none,(.store 2 (.tmp 8) (.tmp 83)),none⟩,⟨(some 9),(.mov (.const (.bool true))),none⟩] false []) .ret)
def c66R5 : ACode:=(.seq (.seq (.region [⟨(some 12),(.mov (.const (.int .i64 0))),none⟩] false []) (.block 2 (.loop c66L3))) c66R4)
def c66 : ACode:=(.seq (.region [⟨(some 4),(.box 2 (.tmp 0)),none⟩,⟨(some 8),(.alloc [(.sc (.slice none 0 0)),(.sc (.int .i64 0))]),none⟩,⟨(some 9),(.mov (.const (.bool false))),none⟩] false []) (.seq (.seq (.region [⟨(some 16),(.load true 2 (.tmp 4)),none⟩,⟨(some 17),(.call (.func 125) [(.tmp 16)]),none⟩,⟨(some 18),(.un .not (.tmp 17)),none⟩,⟨(some 19),(.mov (.tmp 18)),none⟩,⟨(some 20),(.mov (.tmp 2)),(some ((some 19),false))⟩,⟨(some 21),(.bin .lss 3 (.tmp 20) (.const (.int .i64 2))),(some ((some 19),false))⟩,⟨(some 22),(.pick (.tmp 19) (.const (.bool true)) (.tmp 21)),none⟩,⟨(some 23),(.mov (.tmp 22)),none⟩,⟨(some 24),(.mov (.tmp 2)),(some ((some 23),false))⟩,⟨(some 25),(.mov (.tmp 3)),(some ((some 23),false))⟩,⟨(some 26),(.bin .gtr 3 (.tmp 24) (.tmp 25)),(some ((some 23),false))⟩,⟨(some 27),(.pick (.tmp 23) (.const (.bool true)) (.tmp 26)),none⟩,⟨(some 28),(.mov (.tmp 27)),none⟩,⟨(some 29),(.mov (.tmp 3)),(some ((some 28),false))⟩,⟨(some 30),(.bin .gtr 3 (.tmp 29) (.const (.int .i64 16384))),(some ((some 28),false))⟩,⟨(some 31),(.pick (.tmp 28) (.const (.bool true)) (.tmp 30)),none⟩,⟨(some 32),(.mov (.tmp 31)),none⟩,⟨(some 33),(.mov (.tmp 1)),(some ((some 32),false))⟩,⟨(some 34),(.bin .lss 3 (.tmp 33) (.const (.int .i64 0))),(some ((some 32),false))⟩,⟨(some 35),(.pick (.tmp 32) (.const (.bool true)) (.tmp 34)),none⟩] false []) (.cond (.tmp 35) (.seq (.region [⟨(some 36),(.build [(.sc (.slice none 0 0)),(.sc (.int .i64 0))] []),none⟩,⟨none,(.store 2 (.tmp 8) (.tmp 36)),none⟩,⟨(some 9),(.mov (.const (.bool false))),none⟩] false []) .ret) .skip)) (.seq (.region [⟨(some 37),(.mov (.tmp 3)),none⟩,⟨(some 38),(.build [(.sc (.slice none 0 0)),(.sc (.int .i64 0))] [(1,(1,(.tmp 37)))]),none⟩,⟨(some 10),(.alloc [(.sc (.slice none 0 0)),(.sc (.int .i64 0))]),none⟩,⟨none,(.store 2 (.tmp 10) (.tmp 38)),none⟩] false []) (.seq (.seq (.region [⟨(some 11),(.mov (.const (.int .i64 0))),none⟩] false []) (.block 0 (.loop c66L0))) c66R5))))
def r66 : List ARes:=[(.cell 8 true 2),(.tmp 9)]
def c67 : ACode:=(.seq (.region [⟨(some 4),(.box 2 (.tmp 1)),none⟩,⟨(some 6),(.mov (.const (.bool false))),none⟩] false []) (.seq (.region [⟨(some 7),(.mov (.tmp 0)),none⟩,⟨(some 8),(.call (.func 59) [(.tmp 7)]),none⟩,⟨(some 9),(.faddr 0 (.tmp 4)),none⟩,⟨(some 10),(.load false 1 (.tmp 9)),none⟩,⟨(some 11),(.len 0 (.tmp 10)),none⟩,⟨(some 12),(.bin .eql 3 (.tmp 8) (.tmp 11)),none⟩,⟨(some 13),(.mov (.tmp 12)),none⟩,⟨(some 14),(.mov (.tmp 0)),(some ((some 13),true))⟩,⟨(some 15),(.call (.func 60) [(.tmp 14)]),(some ((some 13),true))⟩,⟨(some 16),(.call (.func 62) [(.tmp 15)]),(some ((some 13),true))⟩,⟨(some 17),(.load true 2 (.tmp 4)),(some ((some 13),true))⟩,⟨(some 18),(.call (.func 127) [(.tmp 17),(.const (.int .i64 (-1)))]),(some ((some 13),true))⟩,⟨(some 19),(.call (.func 45) [(.tmp 16),(.tmp 18)]),(some ((some 13),true))⟩,⟨(some 20),(.pick (.tmp 13) (.tmp 19) (.const (.bool false))),none⟩,⟨(some 21),(.mov (.tmp 20)),none⟩,⟨(some 22),(.mov (.tmp 0)),(some ((some 21),true))⟩,⟨(some 23),(.call (.func 63) [(.tmp 22)]),(some ((some 21),true))⟩,⟨(some 24),(.call (.func 62) [(.tmp 23)]),(some ((some 21),true))⟩,⟨(some 25),(.load true 2 (.tmp 4)),(some ((some 21),true))⟩,⟨(some 26),(.call (.func 127) [(.tmp 25),(.const (.int .i64 (-3)))]),(some ((some 21),true))⟩,⟨(some 27),(.call (.func 45) [(.tmp 24),(.tmp 26)]),(some ((some 21),true))⟩,⟨(some 28),(.pick (.tmp 21) (.tmp 27) (.const (.bool false))),none⟩,⟨(some 29),(.mov (.tmp 28)),none⟩,⟨(some 30),(.mov (.tmp 0)),(some ((some 29),true))⟩,⟨(some 31),(.mov (.tmp 2)),(some ((some 29),true))⟩,⟨(some 32),(.call (.func 74) [(.tmp 30),(.tmp 31)]),(some ((some 29),true))⟩,⟨(some 33),(.call (.func 129) [(.tmp 32)]),(some ((some 29),true))⟩,⟨(some 34),(.load true 2 (.tmp 4)),(some ((some 29),true))⟩,⟨(some 35),(.mov (.tmp 2)),(some ((some 29),true))⟩,⟨(some 36),(.call (.func 130) [(.tmp 34),(.tmp 35)]),(some ((some 29),true))⟩,⟨(some 37),(.call (.func 128) [(.tmp 33),(.tmp 36)]),(some ((some 29),true))⟩,⟨(some 38),(.pick (.tmp 29) (.tmp 37) (.const (.bool false))),none⟩,⟨(some 6),(.mov (.tmp 38)),none⟩] true [(1,3),(1,4),(8,10),(9,10),(16,18),(17,18),(25,27),(26,27)]) .ret))
def r67 : List ARes:=[(.tmp 6)]
def c68L0 : ACode:=(.seq (.seq (.region [⟨(some 39),(.mov (.tmp 7)),none⟩,⟨(some 40),(.mov (.tmp 8)),none⟩,⟨(some 41),(.bin .add 3 (.tmp 39) (.tmp 40)),none⟩,⟨(some 42),(.faddr 0 (.tmp 2)),none⟩,⟨(some 43),(.load false 1 (.tmp 42)),none⟩,⟨(some 44),(.len 0 (.tmp 43)),none⟩,⟨(some 45),(.bin .lss 3 (.tmp 41) (.tmp 44)),none⟩,⟨(some 46),(.mov (.tmp 45)),none⟩,⟨(some 47),(.mov (.tmp 8)),(some ((some 46),true))⟩,⟨(some 48),(.mov (.tmp 1)),(some ((some 46),true))⟩,⟨(some 49),(.bin .lss 3 (.tmp 47) (.tmp 48)),(some ((some 46),true))⟩,⟨(some 50),(.pick (.tmp 46) (.tmp 49) (.const (.bool false))),none⟩,⟨(some 51),(.mov (.tmp 50)),none⟩,⟨(some 52),(.faddr 0 (.tmp 2)),(some ((some 51),true))⟩,⟨(some 53),(.load false 1 (.tmp 52)),(some ((some 51),true))⟩,⟨(some 54),(.mov (.tmp 7)),(some ((some 51),true))⟩,⟨(some 55),(.mov (.tmp 8)),(some ((some 51),true))⟩,⟨(some 56),(.bin .add 3 (.tmp 54) (.tmp 55)),(some ((some 51),true))⟩,⟨(some 57),(.iaddr none 1 (.tmp 53) (.tmp 56)),(some ((some 51),true))⟩,⟨(some 58),(.load false 1 (.tmp 57)),(some ((some 51),true))⟩,⟨(some 59),(.bin .eql 3 (.tmp 58) (.const (.int .i64 (-1)))),(some ((some 51),true))⟩,⟨(some 60),(.pick (.tmp 51) (.tmp 59) (.const (.bool false))),none⟩] false []) (.cond (.tmp 60) .skip (.exit 2))) (.block 3 (.region [⟨(some 61),(.mov (.tmp 8)),none⟩,⟨(some 62),(.bin .add 3 (.tmp 61) (.const (.int .i64 1))),none⟩,⟨(some 8),(.mov (.tmp 62)),none⟩] false [])))
def c68R1 : ACode:=(.seq (.region [⟨(some 63),(.mov (.tmp 8)),none⟩,⟨(some 64),(.mov (.tmp 1)),none⟩,⟨(some 65),(.bin .eql 3 (.tmp 63) (.tmp 64)),none⟩] false []) (.cond (.tmp 65) (.seq (.region [⟨(some 66),(.load true 2 (.tmp 2)),none⟩,⟨(some 67),(.mov (.tmp 7)),none⟩,⟨(some 68),(.mov (.tmp 1)),none⟩,⟨(some 69),(.call (.func 131) [(.tmp 66),(.tmp 67),(.tmp 68),(.const (.int .i64 (-2)))]),none⟩,⟨(some 70),(.mov (.tmp 7)),none⟩,⟨none,(.store 2 (.tmp 4) (.tmp 69)),none⟩,⟨(some 5),(.mov (.tmp 70)),none⟩,⟨(some 6),(.mov (.const (.int .i64 0))),none⟩] false []) .ret) .skip))
def c68R2 : ACode:=(.region [⟨(some 18),(.mov (.tmp 7)),none⟩,⟨(some 19),(.bin .add 3 (.tmp 18) (.const (.int .i64 1))),none⟩,⟨(some 7),(.mov (.tmp 19)),none⟩] false [])
def c68L3 : ACode:=(.seq (.seq (.region [⟨(some 13),(.mov (.tmp 7)),none⟩,⟨(some 14),(.faddr 0 (.tmp 2)),none⟩,⟨(some 15),(.load false 1 (.tmp 14)),none⟩,⟨(some 16),(.len 0 (.tmp 15)),none⟩,⟨(some 17),(.bin .lss 3 (.tmp 13) (.tmp 16)),none⟩] false []) (.cond (.tmp 17) .skip (.exit 0))) (.seq (.block 1 (.seq (.region [⟨(some 20),(.faddr 0 (.tmp 2)),none⟩,⟨(some 21),(.load false 1 (.tmp 20)),none⟩,⟨(some 22),(.mov (.tmp 7)),none⟩,⟨(some 23),(.iaddr none 1 (.tmp 21) (.tmp 22)),none⟩,⟨(some 24),(.load false 1 (.tmp 23)),none⟩,⟨(some 25),(.bin .eql 3 (.tmp 24) (.const (.int .i64 (-1)))),none⟩,⟨(some 26),(.mov (.tmp 25)),none⟩,⟨(some 27),(.mov (.tmp 7)),(some ((some 26),true))⟩,⟨(some 28),(.bin .eql 3 (.tmp 27) (.const (.int .i64 0))),(some ((some 26),true))⟩,⟨(some 29),(.mov (.tmp 28)),(some ((some 26),true))⟩,⟨(some 30),(.faddr 0 (.tmp 2)),(some ((some 29),false))⟩,⟨(some 31),(.load false 1 (.tmp 30)),(some ((some 29),false))⟩,⟨(some 32),(.mov (.tmp 7)),(some ((some 29),false))⟩,⟨(some 33),(.bin .sub 3 (.tmp 32) (.const (.int .i64 1))),(some ((some 29),false))⟩,⟨(some 34),(.iaddr none 1 (.tmp 31) (.tmp 33)),(some ((some 29),false))⟩,⟨(some 35),(.load false 1 (.tmp 34)),(some ((some 29),false))⟩,⟨(some 36),(.bin .neq 3 (.tmp 35) (.const (.int .i64 (-1)))),(some ((some 29),false))⟩,⟨(some 37),(.pick (.tmp 29) (.const (.bool true)) (.tmp 36)),(some ((some 26),true))⟩,⟨(some 38),(.pick (.tmp 26) (.tmp 37) (.const (.bool false))),none⟩] false []) (.cond (.tmp 38) (.seq (.region [⟨(some 8),(.mov (.const (.int .i64 0))),none⟩] false []) (.seq (.block 2 (.loop c68L0)) c68R1)) .skip))) c68R2))
def c68L4 : ACode:=(.seq (.seq (.region [⟨(some 74),(.mov (.tmp 9)),none⟩,⟨(some 75),(.bin .gtr 3 (.tmp 74) (.const (.int .i64 0))),none⟩,⟨(some 76),(.mov (.tmp 75)),none⟩,⟨(some 77),(.faddr 0 (.tmp 2)),(some ((some 76),true))⟩,⟨(some 78),(.load false 1 (.tmp 77)),(some ((some 76),true))⟩,⟨(some 79),(.mov (.tmp 9)),(some ((some 76),true))⟩,⟨(some 80),(.bin .sub 3 (.tmp 79) (.const (.int .i64 1))),(some ((some 76),true))⟩,⟨(some 81),(.iaddr none 1 (.tmp 78) (.tmp 80)),(some ((some 76),true))⟩,⟨(some 82),(.load false 1 (.tmp 81)),(some ((some 76),true))⟩,⟨(some 83),(.bin .eql 3 (.tmp 82) (.const (.int .i64 (-1)))),(some ((some 76),true))⟩,⟨(some 84),(.pick (.tmp 76) (.tmp 83) (.const (.bool false))),none⟩] false []) (.cond (.tmp 84) .skip (.exit 4))) (.block 5 (.region [⟨(some 85),(.mov (.tmp 9)),none⟩,⟨(some 86),(.bin .sub 3 (.tmp 85) (.const (.int .i64 1))),none⟩,⟨(some 9),(.mov (.tmp 86)),none⟩] false [])))
def c68R5 : ACode:=(.seq (.seq (.region [⟨(some 87),(.mov (.tmp 1)),none⟩,⟨(some 88),(.faddr 1 (.tmp 2)),none⟩,⟨(some 89),(.load false 1 (.tmp 88)),none⟩,⟨(some 90),(.bin .gtr 3 (.tmp 87) (.tmp 89)),none⟩,⟨(some 91),(.mov (.tmp 90)),none⟩,⟨(some 92),(.mov (.tmp 9)),(some ((some 91),false))⟩,⟨(some 93),(.mov (.tmp 1)),(some ((some 91),false))⟩,⟨(some 94),(.bin .add 3 (.tmp 92) (.tmp 93)),(some ((some 91),false))⟩,⟨(some 95),(.faddr 1 (.tmp 2)),(some ((some 91),false))⟩,⟨(some 96),(.load false 1 (.tmp 95)),(some ((some 91),false))⟩,⟨(some 97),(.bin .gtr 3 (.tmp 94) (.tmp 96)),(some ((some 91),false))⟩,⟨(some 98),(.pick (.tmp 91) (.const (.bool true)) (.tmp 97)),none⟩] false []) (.cond (.tmp 98) (.seq (.region [⟨(some 99),(.load true 2 (.tmp 2)),none⟩,⟨none,(.store 2 (.tmp 4) (.tmp 99)),none⟩,⟨(some 5),(.mov (.const (.int .i64 0))),none⟩,⟨(some 6),(.mov (.const (.int .i64 12))),none⟩] false []) .ret) .skip)) (.seq (.region [⟨(some 100),(.load true 2 (.tmp 2)),none⟩,⟨(some 101),(.mov (.tmp 9)),none⟩,⟨(some 102),(.mov (.tmp 1)),none⟩,⟨(some 103),(.call (.func 131) [(.tmp 100),(.tmp 101),(.tmp 102),(.const (.int .i64 (-2)))]),none⟩,⟨(some 104),(.mov (.tmp 9)),none⟩,⟨none,(.store 2 (.tmp 4) (.tmp 103)),none⟩,⟨(some 5),(.mov (.tmp 104)),none⟩,⟨(some 6),(.mov (.const (.int .i64 0))),none⟩] false []) .ret))
def c68R6 : ACode:=(.seq (.region [⟨(some 71),(.faddr 0 (.tmp 2)),none⟩,⟨(some 72),(.load false 1 (.tmp 71)),none⟩,⟨(some 73),(.len 0 (.tmp 72)),none⟩,⟨(some 9),(.mov (.tmp 73)),none⟩] false []) (.seq (.block 4 (.loop c68L4)) c68R5))
def c68 : ACode:=(.seq (.region [⟨(some 2),(.box 2 (.tmp 0)),none⟩,⟨(some 4),(.alloc [(.sc (.slice none 0 0)),(.sc (.int .i64 0))]),none⟩,⟨(some 5),(.mov (.const (.int .i64 0))),none⟩,⟨(some 6),(.mov (.const (.int .i64 0))),none⟩] false []) (.seq (.seq (.region [⟨(some 10),(.mov (.tmp 1)),none⟩,⟨(some 11),(.bin .lss 3 (.tmp 10) (.const (.int .i64 1))),none⟩] false []) (.cond (.tmp 11) (.seq (.region [⟨(some 12),(.load true 2 (.tmp 2)),none⟩,⟨none,(.store 2 (.tmp 4) (.tmp 12)),none⟩,⟨(some 5),(.mov (.const (.int .i64 0))),none⟩,⟨(some 6),(.mov (.const (.int .i64 1))),none⟩] false []) .ret) .skip)) (.seq (.seq (.region [⟨(some 7),(.mov (.const (.int .i64 0))),none⟩] false []) (.block 0 (.loop c68L3))) c68R6)))
def r68 : List ARes:=[(.cell 4 true 2),(.tmp 5),(.tmp 6)]
def c69L0 : ACode:=(.seq (.seq (.region [⟨(some 35),(.mov (.tmp 8)),none⟩,⟨(some 36),(.faddr 0 (.tmp 5)),none⟩,⟨(some 37),(.load false 1 (.tmp 36)),none⟩,⟨(some 38),(.faddr 1 (.tmp 5)),none⟩,⟨(some 39),(.load false 1 (.tmp 38)),none⟩,⟨(some 40),(.bin .add 3 (.tmp 37) (.tmp 39)),none⟩,⟨(some 41),(.bin .lss 3 (.tmp 35) (.tmp 40)),none⟩] false []) (.cond (.tmp 41) .skip (.exit 0))) (.seq (.block 1 (.seq (.region [⟨(some 44),(.faddr 0 (.tmp 3)),none⟩,⟨(some 45),(.load false 1 (.tmp 44)),none⟩,⟨(some 46),(.mov (.tmp 8)),none⟩,⟨(some 47),(.iaddr none 1 (.tmp 45) (.tmp 46)),none⟩,⟨(some 48),(.load false 1 (.tmp 47)),none⟩,⟨(some 49),(.bin .neq 3 (.tmp 48) (.const (.int .i64 (-2)))),none⟩] false []) (.cond (.tmp 49) (.seq (.region [⟨(some 50),(.load true 2 (.tmp 3)),none⟩,⟨none,(.store 2 (.tmp 6) (.tmp 50)),none⟩,⟨(some 7),(.mov (.const (.int .i64 110))),none⟩] false []) .ret) .skip))) (.region [⟨(some 42),(.mov (.tmp 8)),none⟩,⟨(some 43),(.bin .add 3 (.tmp 42) (.const (.int .i64 1))),none⟩,⟨(some 8),(.mov (.tmp 43)),none⟩] false [])))
def c69R1 : ACode:=(.seq (.region [⟨(some 51),(.load true 2 (.tmp 3)),none⟩,⟨(some 52),(.faddr 0 (.tmp 5)),none⟩,⟨(some 53),(.load false 1 (.tmp 52)),none⟩,⟨(some 54),(.faddr 1 (.tmp 5)),none⟩,⟨(some 55),(.load false 1 (.tmp 54)),none⟩,⟨(some 56),(.mov (.tmp 1)),none⟩,⟨(some 57),(.call (.func 131) [(.tmp 51),(.tmp 53),(.tmp 55),(.tmp 56)]),none⟩,⟨none,(.store 2 (.tmp 6) (.tmp 57)),none⟩,⟨(some 7),(.mov (.const (.int .i64 0))),none⟩] false []) .ret)
def c69 : ACode:=(.seq (.region [⟨(some 3),(.box 2 (.tmp 0)),none⟩,⟨(some 5),(.box 2 (.tmp 2)),none⟩,⟨(some 6),(.alloc [(.sc (.slice none 0 0)),(.sc (.int .i64 0))]),none⟩,⟨(some 7),(.mov (.const (.int .i64 0))),none⟩] false []) (.seq (.seq (.region [⟨(some 9),(.mov (.tmp 1)),none⟩,⟨(some 10),(.bin .lss 3 (.tmp 9) (.const (.int .i64 0))),none⟩,⟨(some 11),(.mov (.tmp 10)),none⟩,⟨(some 12),(.load true 2 (.tmp 5)),(some ((some 11),false))⟩,⟨(some 13),(.call (.func 49) [(.tmp 12)]),(some ((some 11),false))⟩,⟨(some 14),(.un .not (.tmp 13)),(some ((some 11),false))⟩,⟨(some 15),(.pick (.tmp 11) (.const (.bool true)) (.tmp 14)),none⟩,⟨(some 16),(.mov (.tmp 15)),none⟩,⟨(some 17),(.faddr 0 (.tmp 5)),(some ((some 16),false))⟩,⟨(some 18),(.load false 1 (.tmp 17)),(some ((some 16),false))⟩,⟨(some 19),(.bin .lss 3 (.tmp 18) (.const (.int .i64 2))),(some ((some 16),false))⟩,⟨(some 20),(.pick (.tmp 16) (.const (.bool true)) (.tmp 19)),none⟩,⟨(some 21),(.mov (.tmp 20)),none⟩,⟨(some 22),(.faddr 0 (.tmp 5)),(some ((some 21),false))⟩,⟨(some 23),(.load false 1 (.tmp 22)),(some ((some 21),false))⟩,⟨(some 24),(.faddr 1 (.tmp 5)),(some ((some 21),false))⟩,⟨(some 25),(.load false 1 (.tmp 24)),(some ((some 21),false))⟩,⟨(some 26),(.bin .add 3 (.tmp 23) (.tmp 25)),(some ((some 21),false))⟩,⟨(some 27),(.faddr 0 (.tmp 3)),(some ((some 21),false))⟩,⟨(some 28),(.load false 1 (.tmp 27)),(some ((some 21),false))⟩,⟨(some 29),(.len 0 (.tmp 28)),(some ((some 21),false))⟩,⟨(some 30),(.bin .gtr 3 (.tmp 26) (.tmp 29)),(some ((some 21),false))⟩,⟨(some 31),(.pick (.tmp 21) (.const (.bool true)) (.tmp 30)),none⟩] false []) (.cond (.tmp 31) (.seq (.region [⟨(some 32),(.load true 2 (.tmp 3)),none⟩,⟨none,(.store 2 (.tmp 6) (.tmp 32)),none⟩,⟨(some 7),(.mov (.const (.int .i64 1))),none⟩] false []) .ret) .skip)) (.seq (.seq (.region [⟨(some 33),(.faddr 0 (.tmp 5)),none⟩,⟨(some 34),(.load false 1 (.tmp 33)),none⟩,⟨(some 8),(.mov (.tmp 34)),none⟩] false []) (.block 0 (.loop c69L0))) c69R1)))
def r69 : List ARes:=[(.cell 6 true 2),(.tmp 7)]
def c70L0 : ACode:=(.seq (.seq (.region [⟨(some 8),(.mov (.tmp 7)),none⟩,⟨(some 9),(.faddr 0 (.tmp 3)),none⟩,⟨(some 10),(.load false 1 (.tmp 9)),none⟩,⟨(some 11),(.len 0 (.tmp 10)),none⟩,⟨(some 12),(.bin .lss 3 (.tmp 8) (.tmp 11)),none⟩] false []) (.cond (.tmp 12) .skip (.exit 0))) (.seq (.block 1 (.seq (.region [⟨(some 15),(.faddr 0 (.tmp 3)),none⟩,⟨(some 16),(.load false 1 (.tmp 15)),none⟩,⟨(some 17),(.mov (.tmp 7)),none⟩,⟨(some 18),(.iaddr none 1 (.tmp 16) (.tmp 17)),none⟩,⟨(some 19),(.load false 1 (.tmp 18)),none⟩,⟨(some 20),(.bin .geq 3 (.tmp 19) (.const (.int .i64 0))),none⟩,⟨(some 21),(.mov (.tmp 20)),none⟩,⟨(some 22),(.faddr 0 (.tmp 3)),(some ((some 21),true))⟩,⟨(some 23),(.load false 1 (.tmp 22)),(some ((some 21),true))⟩,⟨(some 24),(.mov (.tmp 7)),(some ((some 21),true))⟩,⟨(some 25),(.iaddr none 1 (.tmp 23) (.tmp 24)),(some ((some 21),true))⟩,⟨(some 26),(.load false 1 (.tmp 25)),(some ((some 21),true))⟩,⟨(some 27),(.mov (.tmp 1)),(some ((some 21),true))⟩,⟨(some 28),(.bin .sub 3 (.tmp 27) (.const (.int .i64 1))),(some ((some 21),true))⟩,⟨(some 29),(.bin .lss 3 (.tmp 26) (.tmp 28)),(some ((some 21),true))⟩,⟨(some 30),(.pick (.tmp 21) (.tmp 29) (.const (.bool false))),none⟩,⟨(some 31),(.mov (.tmp 30)),none⟩,⟨(some 32),(.faddr 0 (.tmp 3)),(some ((some 31),true))⟩,⟨(some 33),(.load false 1 (.tmp 32)),(some ((some 31),true))⟩,⟨(some 34),(.mov (.tmp 7)),(some ((some 31),true))⟩,⟨(some 35),(.iaddr none 1 (.tmp 33) (.tmp 34)),(some ((some 31),true))⟩,⟨(some 36),(.load false 1 (.tmp 35)),(some ((some 31),true))⟩,⟨(some 37),(.mov (.tmp 2)),(some ((some 31),true))⟩,⟨(some 38),(.bin .leq 3 (.tmp 36) (.tmp 37)),(some ((some 31),true))⟩,⟨(some 39),(.pick (.tmp 31) (.tmp 38) (.const (.bool false))),none⟩] false []) (.cond (.tmp 39) (.region [⟨(some 40),(.load true 2 (.tmp 3)),none⟩,⟨(some 41),(.mov (.tmp 7)),none⟩,⟨(some 42),(.call (.func 131) [(.tmp 40),(.tmp 41),(.const (.int .i64 1)),(.const (.int .i64 (-1)))]),none⟩,⟨none,(.store 2 (.tmp 3) (.tmp 42)),none⟩] false []) .skip))) (.region [⟨(some 13),(.mov (.tmp 7)),none⟩,⟨(some 14),(.bin .add 3 (.tmp 13) (.const (.int .i64 1))),none⟩,⟨(some 7),(.mov (.tmp 14)),none⟩] false [])))
def c70R1 : ACode:=(.seq (.region [⟨(some 43),(.load true 2 (.tmp 3)),none⟩,⟨none,(.store 2 (.tmp 6) (.tmp 43)),none⟩] false []) .ret)
def c70 : ACode:=(.seq (.region [⟨(some 3),(.box 2 (.tmp 0)),none⟩,⟨(some 6),(.alloc [(.sc (.slice none 0 0)),(.sc (.int .i64 0))]),none⟩] false []) (.seq (.seq (.region [⟨(some 7),(.mov (.const (.int .i64 0))),none⟩] false []) (.block 0 (.loop c70L0))) c70R1))
def r70 : List ARes:=[(.cell 6 true 2)]
def c71 : ACode:=(.seq (.region [⟨(some 2),(.box 2 (.tmp 0)),none⟩,⟨(some 4),(.alloc [(.sc (.slice none 0 0)),(.sc (.int .i64 0))]),none⟩,⟨(some 5),(.mov (.const (.int .i64 0))),none⟩,⟨(some 6),(.mov (.const (.int .i64 0))),none⟩] false []) (.seq (.seq (.region [⟨(some 8),(.mov (.tmp 1)),none⟩,⟨(some 9),(.bin .lss 3 (.tmp 8) (.const (.int .i64 1))),none⟩] false []) (.cond (.tmp 9) (.seq (.region [⟨(some 10),(.load true 2 (.tmp 2)),none⟩,⟨none,(.store 2 (.tmp 4) (.tmp 10)),none⟩,⟨(some 5),(.mov (.const (.int .i64 0))),none⟩,⟨(some 6),(.mov (.const (.int .i64 1))),none⟩] false []) .ret) .skip)) (.seq (.region [⟨(some 11),(.faddr 0 (.tmp 2)),none⟩,⟨(some 12),(.load false 1 (.tmp 11)),none⟩,⟨(some 13),(.len 0 (.tmp 12)),none⟩,⟨(some 7),(.mov (.tmp 13)),none⟩] false []) (.seq (.seq (.region [⟨(some 14),(.mov (.tmp 1)),none⟩,⟨(some 15),(.faddr 1 (.tmp 2)),none⟩,⟨(some 16),(.load false 1 (.tmp 15)),none⟩,⟨(some 17),(.bin .gtr 3 (.tmp 14) (.tmp 16)),none⟩,⟨(some 18),(.mov (.tmp 17)),none⟩,⟨(some 19),(.mov (.tmp 7)),(some ((some 18),false))⟩,⟨(some 20),(.mov (.tmp 1)),(some ((some 18),false))⟩,⟨(some 21),(.bin .add 3 (.tmp 19) (.tmp 20)),(some ((some 18),false))⟩,⟨(some 22),(.faddr 1 (.tmp 2)),(some ((some 18),false))⟩,⟨(some 23),(.load false 1 (.tmp 22)),(some ((some 18),false))⟩,⟨(some 24),(.bin .gtr 3 (.tmp 21) (.tmp 23)),(some ((some 18),false))⟩,⟨(some 25),(.pick (.tmp 18) (.const (.bool true)) (.tmp 24)),none⟩] false []) (.cond (.tmp 25) (.seq (.region [⟨(some 26),(.load true 2 (.tmp 2)),none⟩,⟨none,(.store 2 (.tmp 4) (.tmp 26)),none⟩,⟨(some 5),(.mov (.const (.int .i64 0))),none⟩,⟨(some 6),(.mov (.const (.int .i64 12))),none⟩] false []) .ret) .skip)) (.seq (.region [⟨(some 27),(.load true 2 (.tmp 2)),none⟩,⟨(some 28),(.mov (.tmp 7)),none⟩,⟨(some 29),(.mov (.tmp 1)),none⟩,⟨(some 30),(.call (.func 131) [(.tmp 27),(.tmp 28),(.tmp 29),(.const (.int .i64 (-2)))]),none⟩,⟨(some 31),(.mov (.tmp 7)),none⟩,⟨none,(.store 2 (.tmp 4) (.tmp 30)),none⟩,⟨(some 5),(.mov (.tmp 31)),none⟩,⟨(some 6),(.mov (.const (.int .i64 0))),none⟩] false []) .ret)))))
def r71 : List ARes:=[(.cell 4 true 2),(.tmp 5),(.tmp 6)]
def c72 : ACode:=(.seq (.region [⟨(some 4),(.mov (.const (.int .i64 0))),none⟩,⟨(some 5),(.mov (.const (.int .i64 0))),none⟩] false []) (.seq (.block 0 (.seq (.region [⟨(some 7),(.mov (.tmp 1)),none⟩,⟨(some 8),(.bin .lss 3 (.tmp 7) (.const (.int .i64 1))),none⟩,⟨(some 6),(.mov (.tmp 8)),none⟩] false []) (.cond (.tmp 6) (.seq (.region [⟨(some 4),(.mov (.const (.int .i64 0))),none⟩,⟨(some 5),(.mov (.const (.int .i64 1))),none⟩] false []) .ret) (.seq (.region [⟨(some 10),(.mov (.tmp 1)),none⟩,⟨(some 11),(.mov (.tmp 0)),none⟩,⟨(some 12),(.nilck (.tmp 11)),none⟩,⟨(some 13),(.faddr 1 (.tmp 12)),none⟩,⟨(some 14),(.load false 1 (.tmp 13)),none⟩,⟨(some 15),(.mov (.tmp 0)),none⟩,⟨(some 16),(.nilck (.tmp 15)),none⟩,⟨(some 17),(.faddr 0 (.tmp 16)),none⟩,⟨(some 18),(.load false 1 (.tmp 17)),none⟩,⟨(some 19),(.bin .sub 3 (.tmp 14) (.tmp 18)),none⟩,⟨(some 20),(.bin .gtr 3 (.tmp 10) (.tmp 19)),none⟩,⟨(some 9),(.mov (.tmp 20)),none⟩] true []) (.cond (.tmp 9) (.seq (.region [⟨(some 4),(.mov (.const (.int .i64 0))),none⟩,⟨(some 5),(.mov (.const (.int .i64 12))),none⟩] false []) .ret) .skip))))) (.seq (.region [⟨(some 21),(.mov (.tmp 0)),none⟩,⟨(some 22),(.nilck (.tmp 21)),none⟩,⟨(some 23),(.faddr 0 (.tmp 22)),none⟩,⟨(some 24),(.load false 1 (.tmp 23)),none⟩,⟨(some 25),(.mov (.tmp 1)),none⟩,⟨(some 26),(.bin .add 3 (.tmp 24) (.tmp 25)),none⟩,⟨(some 27),(.nilck (.tmp 21)),none⟩,⟨(some 28),(.faddr 0 (.tmp 27)),none⟩,⟨none,(.store 1 (.tmp 28) (.tmp 26)),none⟩] false []) (.seq (.region [⟨(some 29),(.mov (.tmp 0)),none⟩,⟨(some 30),(.nilck (.tmp 29)),none⟩,⟨(some 31),(.faddr 0 (.tmp 30)),none⟩,⟨(some 32),(.load false 1 (.tmp 31)),none⟩,⟨(some 33),(.mov (.tmp 1)),none⟩,⟨(some 34),(.bin .sub 3 (.tmp 32) (.tmp 33)),none⟩,⟨(some 4),(.mov (.tmp 34)),none⟩,⟨(some 5),(.mov (.const (.int .i64 0))),none⟩] false []) .ret))))
def r72 : List ARes:=[(.tmp 4),(.tmp 5)]
def c73L0 : ACode:=(.seq (.region [⟨(some 31),(.mnxt (.tmp 30)),none⟩,⟨(some 32),(.ext (.tmp 31) 0),none⟩] false []) (.seq (.cond (.tmp 32) .skip (.exit 0)) (.block 1 (.seq (.region [⟨(some 33),(.ment (.tmp 30)),none⟩,⟨(some 34),(.ext (.tmp 33) 0),none⟩,⟨(some 35),(.ext (.tmp 33) 1),none⟩,⟨(some 4),(.mov (.tmp 34)),none⟩,⟨(some 5),(.mov (.tmp 35)),none⟩] false []) (.region [⟨(some 36),(.mov (.tmp 3)),none⟩,⟨(some 37),(.nilck (.tmp 36)),none⟩,⟨(some 38),(.faddr 3 (.tmp 37)),none⟩,⟨(some 39),(.load false 1 (.tmp 38)),none⟩,⟨(some 40),(.mov (.tmp 4)),none⟩,⟨(some 41),(.mov (.tmp 5)),none⟩,⟨(some 42),(.call (.func 111) [(.tmp 41)]),none⟩,⟨none,(.mput (some .i64) (.tmp 39) (.tmp 40) (.tmp 42)),none⟩] true [(3,6)])))))
def c73R1 : ACode:=(.seq (.region [⟨(some 43),(.mov (.tmp 3)),none⟩,⟨(some 2),(.mov (.tmp 43)),none⟩] false []) .ret)
def c73 : ACode:=(.seq (.region [⟨(some 2),(.mov (.const (.pointer none))),none⟩] false []) (.seq (.region [⟨(some 6),(.mov (.tmp 0)),none⟩,⟨(some 7),(.nilck (.tmp 6)),none⟩,⟨(some 8),(.faddr 0 (.tmp 7)),none⟩,⟨(some 9),(.load false 1 (.tmp 8)),none⟩,⟨(some 10),(.mov (.tmp 0)),none⟩,⟨(some 11),(.nilck (.tmp 10)),none⟩,⟨(some 12),(.faddr 1 (.tmp 11)),none⟩,⟨(some 13),(.load false 1 (.tmp 12)),none⟩,⟨(some 14),(.mov (.tmp 0)),none⟩,⟨(some 15),(.nilck (.tmp 14)),none⟩,⟨(some 16),(.faddr 2 (.tmp 15)),none⟩,⟨(some 17),(.load false 1 (.tmp 16)),none⟩,⟨(some 18),(.call (.func 111) [(.tmp 17)]),none⟩,⟨(some 19),(.mov (.tmp 0)),none⟩,⟨(some 20),(.nilck (.tmp 19)),none⟩,⟨(some 21),(.faddr 3 (.tmp 20)),none⟩,⟨(some 22),(.load false 1 (.tmp 21)),none⟩,⟨(some 23),(.call (.func 132) [(.tmp 22)]),none⟩,⟨(some 24),(.build [(.sc (.int .i64 0)),(.sc (.int .i64 0)),(.sc (.slice none 0 0)),(.sc (.map none))] [(0,(1,(.tmp 9))),(1,(1,(.tmp 13))),(2,(1,(.tmp 18))),(3,(1,(.tmp 23)))]),none⟩,⟨(some 25),(.box 4 (.tmp 24)),none⟩,⟨(some 3),(.mov (.tmp 25)),none⟩] true [(3,12),(7,12),(12,16),(3,17),(7,17)]) (.seq (.seq (.region [⟨(some 26),(.mov (.tmp 3)),none⟩,⟨(some 27),(.nilck (.tmp 26)),none⟩,⟨(some 28),(.faddr 3 (.tmp 27)),none⟩,⟨(some 29),(.load false 1 (.tmp 28)),none⟩,⟨(some 30),(.mrng (.tmp 29)),none⟩] false []) (.block 0 (.loop c73L0))) c73R1)))
def r73 : List ARes:=[(.tmp 2)]
def c74 : ACode:=(.seq (.region [⟨(some 3),(.box 1 (.tmp 1)),none⟩,⟨(some 4),(.alloc [(.sc (.slice none 0 0)),(.sc (.slice none 0 0))]),none⟩] false []) (.seq (.region [⟨(some 6),(.mov (.tmp 0)),none⟩,⟨(some 7),(.mkfn (.func 133) [] [(.tmp 3)]),none⟩,⟨(some 8),(.call (.func 120) [(.tmp 6),(.tmp 7)]),none⟩,⟨(some 5),(.mov (.tmp 8)),none⟩] false []) (.seq (.region [⟨(some 9),(.mov (.tmp 0)),none⟩,⟨(some 10),(.nilck (.tmp 9)),none⟩,⟨(some 11),(.faddr 2 (.tmp 10)),none⟩,⟨(some 12),(.load false 1 (.tmp 11)),none⟩,⟨(some 13),(.mov (.tmp 5)),none⟩,⟨(some 14),(.call (.func 52) [(.tmp 12),(.tmp 13)]),none⟩,⟨(some 15),(.mov (.tmp 0)),none⟩,⟨(some 16),(.nilck (.tmp 15)),none⟩,⟨(some 17),(.faddr 3 (.tmp 16)),none⟩,⟨(some 18),(.load false 1 (.tmp 17)),none⟩,⟨(some 19),(.load false 1 (.tmp 3)),none⟩,⟨(some 20),(.look (some .i64) (.sc (.slice none 0 0)) (.tmp 18) (.tmp 19) false),none⟩,⟨(some 21),(.call (.func 111) [(.tmp 20)]),none⟩,⟨(some 22),(.build [(.sc (.slice none 0 0)),(.sc (.slice none 0 0))] [(0,(1,(.tmp 14))),(1,(1,(.tmp 21)))]),none⟩,⟨none,(.store 2 (.tmp 4) (.tmp 22)),none⟩] true [(5,9),(5,10),(5,11)]) .ret)))
def r74 : List ARes:=[(.cell 4 true 2)]
def c105 : ACode:=(.seq (.region [⟨(some 2),(.mov (.const (.slice none 0 0))),none⟩] false []) (.seq (.seq (.region [⟨(some 3),(.mov (.tmp 0)),none⟩,⟨(some 4),(.call (.func 40) [(.tmp 3)]),none⟩,⟨(some 5),(.un .not (.tmp 4)),none⟩] false []) (.cond (.tmp 5) (.seq (.region [⟨(some 2),(.mov (.const (.slice none 0 0))),none⟩] false []) .ret) .skip)) (.seq (.region [⟨(some 6),(.mov (.tmp 0)),none⟩,⟨(some 2),(.mov (.tmp 6)),none⟩] false []) .ret)))
def r105 : List ARes:=[(.tmp 2)]
def c106 : ACode:=(.seq (.region [⟨(some 1),(.box 2 (.tmp 0)),none⟩,⟨(some 2),(.mov (.const (.bool false))),none⟩] false []) (.seq (.region [⟨(some 3),(.faddr 0 (.tmp 1)),none⟩,⟨(some 4),(.load false 1 (.tmp 3)),none⟩,⟨(some 5),(.bin .geq 3 (.tmp 4) (.const (.int .i64 0))),none⟩,⟨(some 6),(.mov (.tmp 5)),none⟩,⟨(some 7),(.faddr 1 (.tmp 1)),(some ((some 6),true))⟩,⟨(some 8),(.load false 1 (.tmp 7)),(some ((some 6),true))⟩,⟨(some 9),(.bin .geq 3 (.tmp 8) (.const (.int .i64 1))),(some ((some 6),true))⟩,⟨(some 10),(.pick (.tmp 6) (.tmp 9) (.const (.bool false))),none⟩,⟨(some 11),(.mov (.tmp 10)),none⟩,⟨(some 12),(.faddr 0 (.tmp 1)),(some ((some 11),true))⟩,⟨(some 13),(.load false 1 (.tmp 12)),(some ((some 11),true))⟩,⟨(some 14),(.bin .leq 3 (.tmp 13) (.const (.int .i64 32768))),(some ((some 11),true))⟩,⟨(some 15),(.pick (.tmp 11) (.tmp 14) (.const (.bool false))),none⟩,⟨(some 16),(.mov (.tmp 15)),none⟩,⟨(some 17),(.faddr 1 (.tmp 1)),(some ((some 16),true))⟩,⟨(some 18),(.load false 1 (.tmp 17)),(some ((some 16),true))⟩,⟨(some 19),(.faddr 0 (.tmp 1)),(some ((some 16),true))⟩,⟨(some 20),(.load false 1 (.tmp 19)),(some ((some 16),true))⟩,⟨(some 21),(.bin .sub 3 (.const (.int .i64 32768)) (.tmp 20)),(some ((some 16),true))⟩,⟨(some 22),(.bin .leq 3 (.tmp 18) (.tmp 21)),(some ((some 16),true))⟩,⟨(some 23),(.pick (.tmp 16) (.tmp 22) (.const (.bool false))),none⟩,⟨(some 2),(.mov (.tmp 23)),none⟩] false []) .ret))
def r106 : List ARes:=[(.tmp 2)]
def c107 : ACode:=(.seq (.region [⟨(some 1),(.box 2 (.tmp 0)),none⟩,⟨(some 2),(.mov (.const (.int .i64 0))),none⟩] false []) (.seq (.region [⟨(some 3),(.faddr 0 (.tmp 1)),none⟩,⟨(some 4),(.load false 1 (.tmp 3)),none⟩,⟨(some 5),(.faddr 1 (.tmp 1)),none⟩,⟨(some 6),(.load false 1 (.tmp 5)),none⟩,⟨(some 7),(.bin .add 3 (.tmp 4) (.tmp 6)),none⟩,⟨(some 2),(.mov (.tmp 7)),none⟩] false []) .ret))
def r107 : List ARes:=[(.tmp 2)]
def c108 : ACode:=(.seq (.region [⟨(some 2),(.alloc [(.sc (.int .i64 0)),(.sc (.int .i64 0))]),none⟩,⟨(some 3),(.mov (.const (.bool false))),none⟩] false []) (.seq (.region [⟨(some 4),(.alloc [(.sc (.int .i64 0)),(.sc (.int .i64 0))]),none⟩] false []) (.seq (.seq (.region [⟨(some 5),(.mov (.tmp 0)),none⟩,⟨(some 6),(.len 0 (.tmp 5)),none⟩,⟨(some 7),(.bin .eql 3 (.tmp 6) (.const (.int .i64 0))),none⟩] false []) (.cond (.tmp 7) (.seq (.region [⟨(some 8),(.load true 2 (.tmp 4)),none⟩,⟨none,(.store 2 (.tmp 2) (.tmp 8)),none⟩,⟨(some 3),(.mov (.const (.bool false))),none⟩] false []) .ret) .skip)) (.seq (.region [⟨(some 9),(.mov (.tmp 0)),none⟩,⟨(some 10),(.mov (.tmp 0)),none⟩,⟨(some 11),(.len 0 (.tmp 10)),none⟩,⟨(some 12),(.bin .sub 3 (.tmp 11) (.const (.int .i64 1))),none⟩,⟨(some 13),(.iaddr none 2 (.tmp 9) (.tmp 12)),none⟩,⟨(some 14),(.load true 2 (.tmp 13)),none⟩,⟨none,(.store 2 (.tmp 2) (.tmp 14)),none⟩,⟨(some 3),(.mov (.const (.bool true))),none⟩] false []) .ret))))
def r108 : List ARes:=[(.cell 2 true 2),(.tmp 3)]
def c109 : ACode:=(.seq (.region [⟨(some 3),(.box 2 (.tmp 1)),none⟩,⟨(some 4),(.mov (.const (.int .i64 0))),none⟩] false []) (.seq (.region [⟨(some 5),(.mov (.tmp 0)),none⟩,⟨(some 6),(.mkfn (.func 158) [] [(.tmp 3)]),none⟩,⟨(some 7),(.call (.func 116) [(.tmp 5),(.tmp 6)]),none⟩,⟨(some 4),(.mov (.tmp 7)),none⟩] false []) .ret))
def r109 : List ARes:=[(.tmp 4)]
def c110L0 : ACode:=(.seq (.region [⟨(some 15),(.bin .lss 3 (.tmp 14) (.tmp 13)),none⟩] false []) (.seq (.cond (.tmp 15) .skip (.exit 0)) (.seq (.block 1 (.seq (.region [⟨(some 16),(.iaddr none 2 (.tmp 12) (.tmp 14)),none⟩,⟨(some 17),(.load true 2 (.tmp 16)),none⟩,⟨(some 6),(.alloc [(.sc (.int .i64 0)),(.sc (.int .i64 0))]),none⟩,⟨none,(.store 2 (.tmp 6) (.tmp 17)),none⟩] false []) (.seq (.region [⟨(some 18),(.mov (.tmp 4)),none⟩,⟨(some 19),(.len 0 (.tmp 18)),none⟩,⟨(some 20),(.bin .sub 3 (.tmp 19) (.const (.int .i64 1))),none⟩,⟨(some 7),(.mov (.tmp 20)),none⟩] false []) (.seq (.seq (.region [⟨(some 21),(.mov (.tmp 7)),none⟩,⟨(some 22),(.bin .lss 3 (.tmp 21) (.const (.int .i64 0))),none⟩,⟨(some 23),(.mov (.tmp 22)),none⟩,⟨(some 24),(.faddr 0 (.tmp 6)),(some ((some 23),false))⟩,⟨(some 25),(.load false 1 (.tmp 24)),(some ((some 23),false))⟩,⟨(some 26),(.mov (.tmp 4)),(some ((some 23),false))⟩,⟨(some 27),(.mov (.tmp 7)),(some ((some 23),false))⟩,⟨(some 28),(.iaddr none 2 (.tmp 26) (.tmp 27)),(some ((some 23),false))⟩,⟨(some 29),(.load true 2 (.tmp 28)),(some ((some 23),false))⟩,⟨(some 30),(.call (.func 107) [(.tmp 29)]),(some ((some 23),false))⟩,⟨(some 31),(.bin .gtr 3 (.tmp 25) (.tmp 30)),(some ((some 23),false))⟩,⟨(some 32),(.pick (.tmp 23) (.const (.bool true)) (.tmp 31)),none⟩] true [(4,9)]) (.cond (.tmp 32) (.seq (.region [⟨(some 33),(.mov (.tmp 4)),none⟩,⟨(some 34),(.load true 2 (.tmp 6)),none⟩,⟨(some 35),(.bslice 2 [(.sc (.int .i64 0)),(.sc (.int .i64 0))] 1 [(0,(.tmp 34))]),none⟩,⟨(some 36),(.app 2 16 (.tmp 33) (.tmp 35)),none⟩,⟨(some 4),(.mov (.tmp 36)),none⟩] false []) (.exit 1)) .skip)) (.region [⟨(some 37),(.mov (.tmp 4)),none⟩,⟨(some 38),(.mov (.tmp 7)),none⟩,⟨(some 39),(.mov (.tmp 4)),none⟩,⟨(some 40),(.mov (.tmp 7)),none⟩,⟨(some 41),(.iaddr none 2 (.tmp 39) (.tmp 40)),none⟩,⟨(some 42),(.load true 2 (.tmp 41)),none⟩,⟨(some 43),(.call (.func 107) [(.tmp 42)]),none⟩,⟨(some 44),(.load true 2 (.tmp 6)),none⟩,⟨(some 45),(.call (.func 107) [(.tmp 44)]),none⟩,⟨(some 46),(.mx2 (.tmp 43) (.tmp 45)),none⟩,⟨(some 47),(.mov (.tmp 4)),none⟩,⟨(some 48),(.mov (.tmp 7)),none⟩,⟨(some 49),(.iaddr none 2 (.tmp 47) (.tmp 48)),none⟩,⟨(some 50),(.faddr 0 (.tmp 49)),none⟩,⟨(some 51),(.load false 1 (.tmp 50)),none⟩,⟨(some 52),(.bin .sub 3 (.tmp 46) (.tmp 51)),none⟩,⟨(some 53),(.iaddr none 2 (.tmp 37) (.tmp 38)),none⟩,⟨(some 54),(.faddr 1 (.tmp 53)),none⟩,⟨none,(.store 1 (.tmp 54) (.tmp 52)),none⟩] true [(6,7),(6,12),(8,12),(6,14),(8,14)]))))) (.region [⟨(some 55),(.bin .add 3 (.tmp 14) (.const (.int .i64 1))),none⟩,⟨(some 14),(.mov (.tmp 55)),none⟩] false []))))
def c110R1 : ACode:=(.seq (.region [⟨(some 56),(.mov (.tmp 4)),none⟩,⟨(some 2),(.mov (.tmp 56)),none⟩] false []) .ret)
def c110 : ACode:=(.seq (.region [⟨(some 2),(.mov (.const (.slice none 0 0))),none⟩] false []) (.seq (.region [⟨(some 8),(.mov (.tmp 0)),none⟩,⟨(some 9),(.call (.func 111) [(.tmp 8)]),none⟩,⟨(some 3),(.mov (.tmp 9)),none⟩] false []) (.seq (.region [⟨(some 10),(.mov (.tmp 3)),none⟩,⟨(some 11),(.call (.func 159) [(.tmp 10),(.func 160)]),none⟩] false []) (.seq (.region [⟨(some 4),(.mov (.const (.slice none 0 0))),none⟩] false []) (.seq (.seq (.region [⟨(some 12),(.mov (.tmp 3)),none⟩,⟨(some 13),(.len 0 (.tmp 12)),none⟩,⟨(some 14),(.mov (.const (.int .i64 0))),none⟩] false []) (.block 0 (.loop c110L0))) c110R1)))))
def r110 : List ARes:=[(.tmp 2)]
def c111 : ACode:=(.seq (.region [⟨(some 2),(.mov (.const (.slice none 0 0))),none⟩] false []) (.seq (.seq (.region [⟨(some 3),(.mov (.tmp 0)),none⟩,⟨(some 4),(.isnil false 0 (.tmp 3)),none⟩] false []) (.cond (.tmp 4) (.seq (.region [⟨(some 2),(.mov (.const (.slice none 0 0))),none⟩] false []) .ret) .skip)) (.seq (.region [⟨(some 5),(.bslice 2 [(.sc (.int .i64 0)),(.sc (.int .i64 0))] 0 []),none⟩,⟨(some 6),(.mov (.tmp 0)),none⟩,⟨(some 7),(.app 2 16 (.tmp 5) (.tmp 6)),none⟩,⟨(some 2),(.mov (.tmp 7)),none⟩] false []) .ret)))
def r111 : List ARes:=[(.tmp 2)]
def c112 : ACode:=(.seq (.region [⟨(some 8),(.mov (.const (.slice none 0 0))),none⟩] false []) (.seq (.region [⟨(some 15),(.mov (.tmp 0)),none⟩,⟨(some 16),(.mov (.tmp 1)),none⟩,⟨(some 17),(.mov (.tmp 2)),none⟩,⟨(some 18),(.slice 2 (.tmp 15) (some (.tmp 16)) (some (.tmp 17)) none),none⟩] false []) (.seq (.seq (.region [⟨(some 19),(.mov (.tmp 1)),none⟩,⟨(some 20),(.mov (.tmp 2)),none⟩,⟨(some 21),(.bin .eql 3 (.tmp 19) (.tmp 20)),none⟩] false []) (.cond (.tmp 21) (.seq (.region [⟨(some 22),(.mov (.tmp 0)),none⟩,⟨(some 23),(.mov (.tmp 1)),none⟩,⟨(some 24),(.mov (.tmp 3)),none⟩,⟨(some 25),(.call (.func 161) [(.tmp 22),(.tmp 23),(.tmp 24)]),none⟩,⟨(some 8),(.mov (.tmp 25)),none⟩] false []) .ret) .skip)) (.seq (.seq (.region [⟨(some 26),(.mov (.tmp 2)),none⟩,⟨(some 27),(.mov (.tmp 0)),none⟩,⟨(some 28),(.len 0 (.tmp 27)),none⟩,⟨(some 29),(.bin .eql 3 (.tmp 26) (.tmp 28)),none⟩] false []) (.cond (.tmp 29) (.seq (.region [⟨(some 30),(.mov (.tmp 0)),none⟩,⟨(some 31),(.mov (.tmp 1)),none⟩,⟨(some 32),(.slice 2 (.tmp 30) none (some (.tmp 31)) none),none⟩,⟨(some 33),(.mov (.tmp 3)),none⟩,⟨(some 34),(.app 2 16 (.tmp 32) (.tmp 33)),none⟩,⟨(some 9),(.mov (.tmp 34)),none⟩] false []) (.seq (.seq (.region [⟨(some 35),(.mov (.tmp 9)),none⟩,⟨(some 36),(.len 0 (.tmp 35)),none⟩,⟨(some 37),(.mov (.tmp 0)),none⟩,⟨(some 38),(.len 0 (.tmp 37)),none⟩,⟨(some 39),(.bin .lss 3 (.tmp 36) (.tmp 38)),none⟩] false []) (.cond (.tmp 39) (.region [⟨(some 40),(.mov (.tmp 0)),none⟩,⟨(some 41),(.mov (.tmp 9)),none⟩,⟨(some 42),(.len 0 (.tmp 41)),none⟩,⟨(some 43),(.slice 2 (.tmp 40) (some (.tmp 42)) none none),none⟩,⟨none,(.clr 2 [(.sc (.int .i64 0)),(.sc (.int .i64 0))] (.tmp 43)),none⟩] false []) .skip)) (.seq (.region [⟨(some 44),(.mov (.tmp 9)),none⟩,⟨(some 8),(.mov (.tmp 44)),none⟩] false []) .ret))) .skip)) (.seq (.region [⟨(some 45),(.mov (.tmp 0)),none⟩,⟨(some 46),(.mov (.tmp 1)),none⟩,⟨(some 47),(.slice 2 (.tmp 45) none (some (.tmp 46)) none),none⟩,⟨(some 48),(.len 0 (.tmp 47)),none⟩,⟨(some 49),(.mov (.tmp 3)),none⟩,⟨(some 50),(.len 0 (.tmp 49)),none⟩,⟨(some 51),(.bin .add 3 (.tmp 48) (.tmp 50)),none⟩,⟨(some 52),(.mov (.tmp 0)),none⟩,⟨(some 53),(.mov (.tmp 2)),none⟩,⟨(some 54),(.slice 2 (.tmp 52) (some (.tmp 53)) none none),none⟩,⟨(some 55),(.len 0 (.tmp 54)),none⟩,⟨(some 56),(.bin .add 3 (.tmp 51) (.tmp 55)),none⟩,⟨(some 10),(.mov (.tmp 56)),none⟩] true []) (.seq (.seq (.region [⟨(some 57),(.mov (.tmp 10)),none⟩,⟨(some 58),(.mov (.tmp 0)),none⟩,⟨(some 59),(.cap (.tmp 58)),none⟩,⟨(some 60),(.bin .gtr 3 (.tmp 57) (.tmp 59)),none⟩] false []) (.cond (.tmp 60) (.seq (.region [⟨(some 61),(.mov (.tmp 0)),none⟩,⟨(some 62),(.mov (.tmp 1)),none⟩,⟨(some 63),(.slice 2 (.tmp 61) none (some (.tmp 62)) none),none⟩,⟨(some 64),(.mov (.tmp 10)),none⟩,⟨(some 65),(.mov (.tmp 1)),none⟩,⟨(some 66),(.bin .sub 3 (.tmp 64) (.tmp 65)),none⟩,⟨(some 67),(.appz 2 16 [(.sc (.int .i64 0)),(.sc (.int .i64 0))] (.tmp 63) (.tmp 66)),none⟩,⟨(some 11),(.mov (.tmp 67)),none⟩] false []) (.seq (.region [⟨(some 68),(.mov (.tmp 11)),none⟩,⟨(some 69),(.mov (.tmp 1)),none⟩,⟨(some 70),(.slice 2 (.tmp 68) (some (.tmp 69)) none none),none⟩,⟨(some 71),(.mov (.tmp 3)),none⟩,⟨(some 72),(.copy 2 (.tmp 70) (.tmp 71)),none⟩] false []) (.seq (.region [⟨(some 73),(.mov (.tmp 11)),none⟩,⟨(some 74),(.mov (.tmp 1)),none⟩,⟨(some 75),(.mov (.tmp 3)),none⟩,⟨(some 76),(.len 0 (.tmp 75)),none⟩,⟨(some 77),(.bin .add 3 (.tmp 74) (.tmp 76)),none⟩,⟨(some 78),(.slice 2 (.tmp 73) (some (.tmp 77)) none none),none⟩,⟨(some 79),(.mov (.tmp 0)),none⟩,⟨(some 80),(.mov (.tmp 2)),none⟩,⟨(some 81),(.slice 2 (.tmp 79) (some (.tmp 80)) none none),none⟩,⟨(some 82),(.copy 2 (.tmp 78) (.tmp 81)),none⟩] true []) (.seq (.region [⟨(some 83),(.mov (.tmp 11)),none⟩,⟨(some 8),(.mov (.tmp 83)),none⟩] false []) .ret)))) .skip)) (.seq (.region [⟨(some 84),(.mov (.tmp 0)),none⟩,⟨(some 85),(.mov (.tmp 10)),none⟩,⟨(some 86),(.slice 2 (.tmp 84) none (some (.tmp 85)) none),none⟩,⟨(some 12),(.mov (.tmp 86)),none⟩] false []) (.seq (.seq (.region [⟨(some 87),(.mov (.tmp 1)),none⟩,⟨(some 88),(.mov (.tmp 3)),none⟩,⟨(some 89),(.len 0 (.tmp 88)),none⟩,⟨(some 90),(.bin .add 3 (.tmp 87) (.tmp 89)),none⟩,⟨(some 91),(.mov (.tmp 2)),none⟩,⟨(some 92),(.bin .leq 3 (.tmp 90) (.tmp 91)),none⟩] false []) (.cond (.tmp 92) (.seq (.region [⟨(some 93),(.mov (.tmp 12)),none⟩,⟨(some 94),(.mov (.tmp 1)),none⟩,⟨(some 95),(.slice 2 (.tmp 93) (some (.tmp 94)) none none),none⟩,⟨(some 96),(.mov (.tmp 3)),none⟩,⟨(some 97),(.copy 2 (.tmp 95) (.tmp 96)),none⟩] false []) (.seq (.region [⟨(some 98),(.mov (.tmp 12)),none⟩,⟨(some 99),(.mov (.tmp 1)),none⟩,⟨(some 100),(.mov (.tmp 3)),none⟩,⟨(some 101),(.len 0 (.tmp 100)),none⟩,⟨(some 102),(.bin .add 3 (.tmp 99) (.tmp 101)),none⟩,⟨(some 103),(.slice 2 (.tmp 98) (some (.tmp 102)) none none),none⟩,⟨(some 104),(.mov (.tmp 0)),none⟩,⟨(some 105),(.mov (.tmp 2)),none⟩,⟨(some 106),(.slice 2 (.tmp 104) (some (.tmp 105)) none none),none⟩,⟨(some 107),(.copy 2 (.tmp 103) (.tmp 106)),none⟩] true []) (.seq (.region [⟨(some 108),(.mov (.tmp 0)),none⟩,⟨(some 109),(.mov (.tmp 10)),none⟩,⟨(some 110),(.slice 2 (.tmp 108) (some (.tmp 109)) none none),none⟩,⟨none,(.clr 2 [(.sc (.int .i64 0)),(.sc (.int .i64 0))] (.tmp 110)),none⟩] false []) (.seq (.region [⟨(some 111),(.mov (.tmp 12)),none⟩,⟨(some 8),(.mov (.tmp 111)),none⟩] false []) .ret)))) .skip)) (.seq (.seq (.region [⟨(some 112),(.mov (.tmp 12)),none⟩,⟨(some 113),(.mov (.tmp 1)),none⟩,⟨(some 114),(.mov (.tmp 3)),none⟩,⟨(some 115),(.len 0 (.tmp 114)),none⟩,⟨(some 116),(.bin .add 3 (.tmp 113) (.tmp 115)),none⟩,⟨(some 117),(.slice 2 (.tmp 112) (some (.tmp 116)) none none),none⟩,⟨(some 118),(.mov (.tmp 3)),none⟩,⟨(some 119),(.call (.func 162) [(.tmp 117),(.tmp 118)]),none⟩,⟨(some 120),(.un .not (.tmp 119)),none⟩] false []) (.cond (.tmp 120) (.seq (.region [⟨(some 121),(.mov (.tmp 12)),none⟩,⟨(some 122),(.mov (.tmp 1)),none⟩,⟨(some 123),(.mov (.tmp 3)),none⟩,⟨(some 124),(.len 0 (.tmp 123)),none⟩,⟨(some 125),(.bin .add 3 (.tmp 122) (.tmp 124)),none⟩,⟨(some 126),(.slice 2 (.tmp 121) (some (.tmp 125)) none none),none⟩,⟨(some 127),(.mov (.tmp 0)),none⟩,⟨(some 128),(.mov (.tmp 2)),none⟩,⟨(some 129),(.slice 2 (.tmp 127) (some (.tmp 128)) none none),none⟩,⟨(some 130),(.copy 2 (.tmp 126) (.tmp 129)),none⟩] true []) (.seq (.region [⟨(some 131),(.mov (.tmp 12)),none⟩,⟨(some 132),(.mov (.tmp 1)),none⟩,⟨(some 133),(.slice 2 (.tmp 131) (some (.tmp 132)) none none),none⟩,⟨(some 134),(.mov (.tmp 3)),none⟩,⟨(some 135),(.copy 2 (.tmp 133) (.tmp 134)),none⟩] false []) (.seq (.region [⟨(some 136),(.mov (.tmp 12)),none⟩,⟨(some 8),(.mov (.tmp 136)),none⟩] false []) .ret))) .skip)) (.seq (.region [⟨(some 137),(.mov (.tmp 3)),none⟩,⟨(some 138),(.len 0 (.tmp 137)),none⟩,⟨(some 139),(.mov (.tmp 2)),none⟩,⟨(some 140),(.mov (.tmp 1)),none⟩,⟨(some 141),(.bin .sub 3 (.tmp 139) (.tmp 140)),none⟩,⟨(some 142),(.bin .sub 3 (.tmp 138) (.tmp 141)),none⟩,⟨(some 13),(.mov (.tmp 142)),none⟩] false []) (.seq (.seq (.region [⟨(some 143),(.mov (.tmp 12)),none⟩,⟨(some 144),(.mov (.tmp 1)),none⟩,⟨(some 145),(.mov (.tmp 2)),none⟩,⟨(some 146),(.slice 2 (.tmp 143) (some (.tmp 144)) (some (.tmp 145)) none),none⟩,⟨(some 147),(.mov (.tmp 3)),none⟩,⟨(some 148),(.call (.func 162) [(.tmp 146),(.tmp 147)]),none⟩,⟨(some 149),(.un .not (.tmp 148)),none⟩] false []) (.cond (.tmp 149) (.seq (.region [⟨(some 150),(.mov (.tmp 12)),none⟩,⟨(some 151),(.mov (.tmp 1)),none⟩,⟨(some 152),(.mov (.tmp 2)),none⟩,⟨(some 153),(.slice 2 (.tmp 150) (some (.tmp 151)) (some (.tmp 152)) none),none⟩,⟨(some 154),(.mov (.tmp 3)),none⟩,⟨(some 155),(.mov (.tmp 13)),none⟩,⟨(some 156),(.slice 2 (.tmp 154) (some (.tmp 155)) none none),none⟩,⟨(some 157),(.copy 2 (.tmp 153) (.tmp 156)),none⟩] true []) (.seq (.region [⟨(some 158),(.mov (.tmp 12)),none⟩,⟨(some 159),(.mov (.tmp 0)),none⟩,⟨(some 160),(.len 0 (.tmp 159)),none⟩,⟨(some 161),(.slice 2 (.tmp 158) (some (.tmp 160)) none none),none⟩,⟨(some 162),(.mov (.tmp 3)),none⟩,⟨(some 163),(.mov (.tmp 13)),none⟩,⟨(some 164),(.slice 2 (.tmp 162) none (some (.tmp 163)) none),none⟩,⟨(some 165),(.copy 2 (.tmp 161) (.tmp 164)),none⟩] true []) (.seq (.region [⟨(some 166),(.mov (.tmp 12)),none⟩,⟨(some 167),(.mov (.tmp 1)),none⟩,⟨(some 168),(.slice 2 (.tmp 166) (some (.tmp 167)) none none),none⟩,⟨(some 169),(.mov (.tmp 13)),none⟩,⟨(some 170),(.call (.func 163) [(.tmp 168),(.tmp 169)]),none⟩] false []) (.seq (.region [⟨(some 171),(.mov (.tmp 12)),none⟩,⟨(some 8),(.mov (.tmp 171)),none⟩] false []) .ret)))) .skip)) (.seq (.seq (.region [⟨(some 172),(.mov (.tmp 12)),none⟩,⟨(some 173),(.mov (.tmp 0)),none⟩,⟨(some 174),(.len 0 (.tmp 173)),none⟩,⟨(some 175),(.slice 2 (.tmp 172) (some (.tmp 174)) none none),none⟩,⟨(some 176),(.mov (.tmp 3)),none⟩,⟨(some 177),(.call (.func 162) [(.tmp 175),(.tmp 176)]),none⟩,⟨(some 178),(.un .not (.tmp 177)),none⟩] false []) (.cond (.tmp 178) (.seq (.region [⟨(some 179),(.mov (.tmp 12)),none⟩,⟨(some 180),(.mov (.tmp 0)),none⟩,⟨(some 181),(.len 0 (.tmp 180)),none⟩,⟨(some 182),(.slice 2 (.tmp 179) (some (.tmp 181)) none none),none⟩,⟨(some 183),(.mov (.tmp 3)),none⟩,⟨(some 184),(.mov (.tmp 13)),none⟩,⟨(some 185),(.slice 2 (.tmp 183) none (some (.tmp 184)) none),none⟩,⟨(some 186),(.copy 2 (.tmp 182) (.tmp 185)),none⟩] true []) (.seq (.region [⟨(some 187),(.mov (.tmp 12)),none⟩,⟨(some 188),(.mov (.tmp 1)),none⟩,⟨(some 189),(.mov (.tmp 2)),none⟩,⟨(some 190),(.slice 2 (.tmp 187) (some (.tmp 188)) (some (.tmp 189)) none),none⟩,⟨(some 191),(.mov (.tmp 3)),none⟩,⟨(some 192),(.mov (.tmp 13)),none⟩,⟨(some 193),(.slice 2 (.tmp 191) (some (.tmp 192)) none none),none⟩,⟨(some 194),(.copy 2 (.tmp 190) (.tmp 193)),none⟩] true []) (.seq (.region [⟨(some 195),(.mov (.tmp 12)),none⟩,⟨(some 196),(.mov (.tmp 1)),none⟩,⟨(some 197),(.slice 2 (.tmp 195) (some (.tmp 196)) none none),none⟩,⟨(some 198),(.mov (.tmp 13)),none⟩,⟨(some 199),(.call (.func 163) [(.tmp 197),(.tmp 198)]),none⟩] false []) (.seq (.region [⟨(some 200),(.mov (.tmp 12)),none⟩,⟨(some 8),(.mov (.tmp 200)),none⟩] false []) .ret)))) .skip)) (.seq (.region [⟨(some 201),(.mov (.tmp 3)),none⟩,⟨(some 202),(.mov (.tmp 0)),none⟩,⟨(some 203),(.mov (.tmp 2)),none⟩,⟨(some 204),(.slice 2 (.tmp 202) (some (.tmp 203)) none none),none⟩,⟨(some 205),(.call (.func 164) [(.tmp 201),(.tmp 204)]),none⟩,⟨(some 14),(.mov (.tmp 205)),none⟩] false []) (.seq (.region [⟨(some 206),(.mov (.tmp 12)),none⟩,⟨(some 207),(.mov (.tmp 1)),none⟩,⟨(some 208),(.slice 2 (.tmp 206) (some (.tmp 207)) none none),none⟩,⟨(some 209),(.mov (.tmp 3)),none⟩,⟨(some 210),(.copy 2 (.tmp 208) (.tmp 209)),none⟩] false []) (.seq (.region [⟨(some 211),(.mov (.tmp 12)),none⟩,⟨(some 212),(.mov (.tmp 1)),none⟩,⟨(some 213),(.mov (.tmp 3)),none⟩,⟨(some 214),(.len 0 (.tmp 213)),none⟩,⟨(some 215),(.bin .add 3 (.tmp 212) (.tmp 214)),none⟩,⟨(some 216),(.slice 2 (.tmp 211) (some (.tmp 215)) none none),none⟩,⟨(some 217),(.mov (.tmp 12)),none⟩,⟨(some 218),(.mov (.tmp 1)),none⟩,⟨(some 219),(.mov (.tmp 14)),none⟩,⟨(some 220),(.bin .add 3 (.tmp 218) (.tmp 219)),none⟩,⟨(some 221),(.slice 2 (.tmp 217) (some (.tmp 220)) none none),none⟩,⟨(some 222),(.copy 2 (.tmp 216) (.tmp 221)),none⟩] true []) (.seq (.region [⟨(some 223),(.mov (.tmp 12)),none⟩,⟨(some 8),(.mov (.tmp 223)),none⟩] false []) .ret))))))))))))))))
def r112 : List ARes:=[(.tmp 8)]
def c113L0 : ACode:=(.seq (.region [⟨(some 12),(.bin .lss 3 (.tmp 11) (.tmp 10)),none⟩] false []) (.seq (.cond (.tmp 12) .skip (.exit 0)) (.seq (.block 1 (.seq (.region [⟨(some 13),(.iaddr none 1 (.tmp 9) (.tmp 11)),none⟩,⟨(some 14),(.load false 1 (.tmp 13)),none⟩,⟨(some 5),(.mov (.tmp 14)),none⟩] false []) (.seq (.region [⟨(some 15),(.mov (.tmp 3)),none⟩,⟨(some 16),(.mov (.tmp 5)),none⟩,⟨(some 17),(.len 0 (.tmp 16)),none⟩,⟨(some 18),(.bin .add 3 (.tmp 15) (.tmp 17)),none⟩,⟨(some 3),(.mov (.tmp 18)),none⟩] false []) (.seq (.region [⟨(some 19),(.mov (.tmp 3)),none⟩,⟨(some 20),(.bin .lss 3 (.tmp 19) (.const (.int .i64 0))),none⟩] false []) (.cond (.tmp 20) (.region [⟨(some 21),.stop,none⟩,⟨none,.stop,none⟩] false []) .skip))))) (.region [⟨(some 22),(.bin .add 3 (.tmp 11) (.const (.int .i64 1))),none⟩,⟨(some 11),(.mov (.tmp 22)),none⟩] false []))))
def c113L1 : ACode:=(.seq (.region [⟨(some 28),(.bin .lss 3 (.tmp 27) (.tmp 26)),none⟩] false []) (.seq (.cond (.tmp 28) .skip (.exit 2)) (.seq (.block 3 (.seq (.region [⟨(some 29),(.iaddr none 1 (.tmp 25) (.tmp 27)),none⟩,⟨(some 30),(.load false 1 (.tmp 29)),none⟩,⟨(some 8),(.mov (.tmp 30)),none⟩] false []) (.region [⟨(some 31),(.mov (.tmp 6)),none⟩,⟨(some 32),(.mov (.tmp 8)),none⟩,⟨(some 33),(.app 2 16 (.tmp 31) (.tmp 32)),none⟩,⟨(some 6),(.mov (.tmp 33)),none⟩] false []))) (.region [⟨(some 34),(.bin .add 3 (.tmp 27) (.const (.int .i64 1))),none⟩,⟨(some 27),(.mov (.tmp 34)),none⟩] false []))))
def c113R2 : ACode:=(.seq (.region [⟨(some 35),(.mov (.tmp 6)),none⟩,⟨(some 2),(.mov (.tmp 35)),none⟩] false []) .ret)
def c113R3 : ACode:=(.seq (.region [⟨(some 23),(.mov (.tmp 3)),none⟩,⟨(some 24),(.call (.func 165) [(.const (.slice none 0 0)),(.tmp 23)]),none⟩,⟨(some 6),(.mov (.tmp 24)),none⟩] false []) (.seq (.seq (.region [⟨(some 25),(.mov (.tmp 0)),none⟩,⟨(some 26),(.len 0 (.tmp 25)),none⟩,⟨(some 27),(.mov (.const (.int .i64 0))),none⟩] false []) (.block 2 (.loop c113L1))) c113R2))
def c113 : ACode:=(.seq (.region [⟨(some 2),(.mov (.const (.slice none 0 0))),none⟩] false []) (.seq (.region [⟨(some 3),(.mov (.const (.int .i64 0))),none⟩] false []) (.seq (.seq (.region [⟨(some 9),(.mov (.tmp 0)),none⟩,⟨(some 10),(.len 0 (.tmp 9)),none⟩,⟨(some 11),(.mov (.const (.int .i64 0))),none⟩] false []) (.block 0 (.loop c113L0))) c113R3)))
def r113 : List ARes:=[(.tmp 2)]
def c114 : ACode:=(.seq (.region [⟨(some 4),(.mov (.const (.bool false))),none⟩] false []) (.seq (.region [⟨(some 5),(.mov (.tmp 0)),none⟩,⟨(some 6),(.mov (.tmp 1)),none⟩,⟨(some 7),(.call (.func 116) [(.tmp 5),(.tmp 6)]),none⟩,⟨(some 8),(.bin .geq 3 (.tmp 7) (.const (.int .i64 0))),none⟩,⟨(some 4),(.mov (.tmp 8)),none⟩] false []) .ret))
def r114 : List ARes:=[(.tmp 4)]
def c115 : ACode:=(.seq (.region [⟨(some 2),(.box 2 (.tmp 0)),none⟩,⟨(some 3),(.mov (.const (.bool false))),none⟩] false []) (.seq (.region [⟨(some 4),(.load false 1 (.tmp 1)),none⟩,⟨(some 5),(.load true 2 (.tmp 2)),none⟩,⟨(some 6),(.call (.func 109) [(.tmp 4),(.tmp 5)]),none⟩,⟨(some 7),(.bin .geq 3 (.tmp 6) (.const (.int .i64 0))),none⟩,⟨(some 3),(.mov (.tmp 7)),none⟩] false []) .ret))
def r115 : List ARes:=[(.tmp 3)]
def c116L0 : ACode:=(.seq (.region [⟨(some 9),(.bin .lss 3 (.tmp 8) (.tmp 7)),none⟩] false []) (.seq (.cond (.tmp 9) .skip (.exit 0)) (.seq (.block 1 (.seq (.region [⟨(some 10),(.mov (.tmp 8)),none⟩,⟨(some 5),(.mov (.tmp 10)),none⟩] false []) (.seq (.region [⟨(some 11),(.mov (.tmp 1)),none⟩,⟨(some 12),(.mov (.tmp 0)),none⟩,⟨(some 13),(.mov (.tmp 5)),none⟩,⟨(some 14),(.iaddr none 2 (.tmp 12) (.tmp 13)),none⟩,⟨(some 15),(.load true 2 (.tmp 14)),none⟩,⟨(some 16),(.call (.tmp 11) [(.tmp 15)]),none⟩] false []) (.cond (.tmp 16) (.seq (.region [⟨(some 17),(.mov (.tmp 5)),none⟩,⟨(some 4),(.mov (.tmp 17)),none⟩] false []) .ret) .skip)))) (.region [⟨(some 18),(.bin .add 3 (.tmp 8) (.const (.int .i64 1))),none⟩,⟨(some 8),(.mov (.tmp 18)),none⟩] false []))))
def c116R1 : ACode:=(.seq (.region [⟨(some 4),(.mov (.const (.int .i64 (-1)))),none⟩] false []) .ret)
def c116 : ACode:=(.seq (.region [⟨(some 4),(.mov (.const (.int .i64 0))),none⟩] false []) (.seq (.seq (.region [⟨(some 6),(.mov (.tmp 0)),none⟩,⟨(some 7),(.len 0 (.tmp 6)),none⟩,⟨(some 8),(.mov (.const (.int .i64 0))),none⟩] false []) (.block 0 (.loop c116L0))) c116R1))
def r116 : List ARes:=[(.tmp 4)]
def c117 : ACode:=(.seq (.region [⟨(some 2),(.box 2 (.tmp 0)),none⟩,⟨(some 3),(.mov (.const (.bool false))),none⟩] false []) (.seq (.region [⟨(some 4),(.load false 1 (.tmp 1)),none⟩,⟨(some 5),(.bin .geq 3 (.tmp 4) (.const (.int .i64 1))),none⟩,⟨(some 6),(.mov (.tmp 5)),none⟩,⟨(some 7),(.faddr 1 (.tmp 2)),(some ((some 6),true))⟩,⟨(some 8),(.load false 1 (.tmp 7)),(some ((some 6),true))⟩,⟨(some 9),(.load false 1 (.tmp 1)),(some ((some 6),true))⟩,⟨(some 10),(.bin .geq 3 (.tmp 8) (.tmp 9)),(some ((some 6),true))⟩,⟨(some 11),(.pick (.tmp 6) (.tmp 10) (.const (.bool false))),none⟩,⟨(some 3),(.mov (.tmp 11)),none⟩] false []) .ret))
def r117 : List ARes:=[(.tmp 3)]
def c118 : ACode:=(.seq (.region [⟨(some 1),(.box 2 (.tmp 0)),none⟩,⟨(some 2),(.mov (.const (.bool false))),none⟩] false []) (.seq (.region [⟨(some 3),(.faddr 0 (.tmp 1)),none⟩,⟨(some 4),(.load false 1 (.tmp 3)),none⟩,⟨(some 5),(.call (.func 166) [(.tmp 4)]),none⟩,⟨(some 6),(.mov (.tmp 5)),none⟩,⟨(some 7),(.faddr 1 (.tmp 1)),(some ((some 6),true))⟩,⟨(some 8),(.load false 1 (.tmp 7)),(some ((some 6),true))⟩,⟨(some 9),(.call (.func 166) [(.tmp 8)]),(some ((some 6),true))⟩,⟨(some 10),(.pick (.tmp 6) (.tmp 9) (.const (.bool false))),none⟩,⟨(some 11),(.mov (.tmp 10)),none⟩,⟨(some 12),(.faddr 0 (.tmp 1)),(some ((some 11),true))⟩,⟨(some 13),(.load false 1 (.tmp 12)),(some ((some 11),true))⟩,⟨(some 14),(.faddr 1 (.tmp 1)),(some ((some 11),true))⟩,⟨(some 15),(.load false 1 (.tmp 14)),(some ((some 11),true))⟩,⟨(some 16),(.call (.func 53) [(.tmp 13),(.tmp 15)]),(some ((some 11),true))⟩,⟨(some 17),(.un .not (.tmp 16)),(some ((some 11),true))⟩,⟨(some 18),(.pick (.tmp 11) (.tmp 17) (.const (.bool false))),none⟩,⟨(some 2),(.mov (.tmp 18)),none⟩] false []) .ret))
def r118 : List ARes:=[(.tmp 2)]
def c119 : ACode:=(.seq (.region [⟨(some 2),(.mov (.const (.int .i64 0))),none⟩] false []) (.seq (.seq (.region [⟨(some 4),(.mov (.tmp 0)),none⟩,⟨(some 5),(.nilck (.tmp 4)),none⟩,⟨(some 6),(.faddr 2 (.tmp 5)),none⟩,⟨(some 7),(.load false 1 (.tmp 6)),none⟩,⟨(some 8),(.len 0 (.tmp 7)),none⟩,⟨(some 9),(.bin .sub 3 (.tmp 8) (.const (.int .i64 1))),none⟩,⟨(some 3),(.mov (.tmp 9)),none⟩] false []) (.seq (.region [⟨(some 10),(.mov (.tmp 3)),none⟩,⟨(some 11),(.bin .geq 3 (.tmp 10) (.const (.int .i64 0))),none⟩,⟨(some 12),(.mov (.tmp 11)),none⟩,⟨(some 13),(.mov (.tmp 0)),(some ((some 12),true))⟩,⟨(some 14),(.nilck (.tmp 13)),(some ((some 12),true))⟩,⟨(some 15),(.faddr 2 (.tmp 14)),(some ((some 12),true))⟩,⟨(some 16),(.load false 1 (.tmp 15)),(some ((some 12),true))⟩,⟨(some 17),(.mov (.tmp 3)),(some ((some 12),true))⟩,⟨(some 18),(.iaddr none 2 (.tmp 16) (.tmp 17)),(some ((some 12),true))⟩,⟨(some 19),(.faddr 0 (.tmp 18)),(some ((some 12),true))⟩,⟨(some 20),(.load false 1 (.tmp 19)),(some ((some 12),true))⟩,⟨(some 21),(.mov (.tmp 0)),(some ((some 12),true))⟩,⟨(some 22),(.nilck (.tmp 21)),(some ((some 12),true))⟩,⟨(some 23),(.faddr 2 (.tmp 22)),(some ((some 12),true))⟩,⟨(some 24),(.load false 1 (.tmp 23)),(some ((some 12),true))⟩,⟨(some 25),(.mov (.tmp 3)),(some ((some 12),true))⟩,⟨(some 26),(.iaddr none 2 (.tmp 24) (.tmp 25)),(some ((some 12),true))⟩,⟨(some 27),(.faddr 1 (.tmp 26)),(some ((some 12),true))⟩,⟨(some 28),(.load false 1 (.tmp 27)),(some ((some 12),true))⟩,⟨(some 29),(.bin .add 3 (.tmp 20) (.tmp 28)),(some ((some 12),true))⟩,⟨(some 30),(.mov (.tmp 0)),(some ((some 12),true))⟩,⟨(some 31),(.nilck (.tmp 30)),(some ((some 12),true))⟩,⟨(some 32),(.faddr 0 (.tmp 31)),(some ((some 12),true))⟩,⟨(some 33),(.load false 1 (.tmp 32)),(some ((some 12),true))⟩,⟨(some 34),(.bin .eql 3 (.tmp 29) (.tmp 33)),(some ((some 12),true))⟩,⟨(some 35),(.pick (.tmp 12) (.tmp 34) (.const (.bool false))),none⟩] true []) (.cond (.tmp 35) (.seq (.region [⟨(some 36),(.mov (.tmp 0)),none⟩,⟨(some 37),(.nilck (.tmp 36)),none⟩,⟨(some 38),(.faddr 2 (.tmp 37)),none⟩,⟨(some 39),(.load false 1 (.tmp 38)),none⟩,⟨(some 40),(.mov (.tmp 3)),none⟩,⟨(some 41),(.iaddr none 2 (.tmp 39) (.tmp 40)),none⟩,⟨(some 42),(.faddr 1 (.tmp 41)),none⟩,⟨(some 43),(.load false 1 (.tmp 42)),none⟩,⟨(some 2),(.mov (.tmp 43)),none⟩] false []) .ret) .skip))) (.seq (.region [⟨(some 2),(.mov (.const (.int .i64 0))),none⟩] false []) .ret)))
def r119 : List ARes:=[(.tmp 2)]
def c120L0 : ACode:=(.seq (.region [⟨(some 13),(.mnxt (.tmp 12)),none⟩,⟨(some 14),(.ext (.tmp 13) 0),none⟩] false []) (.seq (.cond (.tmp 14) .skip (.exit 0)) (.block 1 (.seq (.region [⟨(some 15),(.ment (.tmp 12)),none⟩,⟨(some 16),(.ext (.tmp 15) 0),none⟩,⟨(some 17),(.ext (.tmp 15) 1),none⟩,⟨(some 6),(.mov (.tmp 16)),none⟩,⟨(some 7),(.mov (.tmp 17)),none⟩] false []) (.seq (.region [⟨(some 18),(.mov (.tmp 1)),none⟩,⟨(some 19),(.mov (.tmp 6)),none⟩,⟨(some 20),(.call (.tmp 18) [(.tmp 19)]),none⟩] false []) (.cond (.tmp 20) (.region [⟨(some 21),(.mov (.tmp 5)),none⟩,⟨(some 22),(.mov (.tmp 7)),none⟩,⟨(some 23),(.call (.func 52) [(.tmp 21),(.tmp 22)]),none⟩,⟨(some 5),(.mov (.tmp 23)),none⟩] false []) .skip))))))
def c120R1 : ACode:=(.seq (.region [⟨(some 24),(.mov (.tmp 5)),none⟩,⟨(some 4),(.mov (.tmp 24)),none⟩] false []) .ret)
def c120 : ACode:=(.seq (.region [⟨(some 4),(.mov (.const (.slice none 0 0))),none⟩] false []) (.seq (.region [⟨(some 5),(.mov (.const (.slice none 0 0))),none⟩] false []) (.seq (.seq (.region [⟨(some 8),(.mov (.tmp 0)),none⟩,⟨(some 9),(.nilck (.tmp 8)),none⟩,⟨(some 10),(.faddr 3 (.tmp 9)),none⟩,⟨(some 11),(.load false 1 (.tmp 10)),none⟩,⟨(some 12),(.mrng (.tmp 11)),none⟩] false []) (.block 0 (.loop c120L0))) c120R1)))
def r120 : List ARes:=[(.tmp 4)]
def c121 : ACode:=(.seq (.region [⟨(some 2),(.mov (.const (.bool false))),none⟩] false []) (.seq (.region [⟨(some 2),(.mov (.const (.bool true))),none⟩] false []) .ret))
def r121 : List ARes:=[(.tmp 2)]
def c122 : ACode:=(.seq (.region [⟨(some 4),(.mov (.const (.bool false))),none⟩] false []) (.seq (.region [⟨(some 5),(.mov (.tmp 0)),none⟩,⟨(some 6),(.load false 1 (.tmp 1)),none⟩,⟨(some 7),(.bin .sub 3 (.tmp 6) (.const (.int .i64 2))),none⟩,⟨(some 8),(.bin .leq 3 (.tmp 5) (.tmp 7)),none⟩,⟨(some 9),(.mov (.tmp 8)),none⟩,⟨(some 10),(.mov (.tmp 0)),(some ((some 9),true))⟩,⟨(some 11),(.load false 1 (.tmp 2)),(some ((some 9),true))⟩,⟨(some 12),(.bin .leq 3 (.tmp 10) (.tmp 11)),(some ((some 9),true))⟩,⟨(some 13),(.pick (.tmp 9) (.tmp 12) (.const (.bool false))),none⟩,⟨(some 4),(.mov (.tmp 13)),none⟩] false []) .ret))
def r122 : List ARes:=[(.tmp 4)]
def c123L0 : ACode:=(.seq (.region [⟨(some 8),(.mnxt (.tmp 7)),none⟩,⟨(some 9),(.ext (.tmp 8) 0),none⟩] false []) (.seq (.cond (.tmp 9) .skip (.exit 0)) (.block 1 (.seq (.region [⟨(some 10),(.ment (.tmp 7)),none⟩,⟨(some 11),(.ext (.tmp 10) 0),none⟩,⟨(some 12),(.ext (.tmp 10) 1),none⟩,⟨(some 4),(.mov (.tmp 11)),none⟩,⟨(some 5),(.mov (.tmp 12)),none⟩] false []) (.seq (.region [⟨(some 13),(.mov (.tmp 1)),none⟩,⟨(some 14),(.mov (.tmp 4)),none⟩,⟨(some 15),(.mov (.tmp 5)),none⟩,⟨(some 16),(.call (.tmp 13) [(.tmp 14),(.tmp 15)]),none⟩] false []) (.cond (.tmp 16) (.region [⟨(some 17),(.mov (.tmp 0)),none⟩,⟨(some 18),(.mov (.tmp 4)),none⟩,⟨none,(.mdel .i64 (.tmp 17) (.tmp 18)),none⟩] false []) .skip))))))
def c123 : ACode:=(.seq (.region [⟨(some 6),(.mov (.tmp 0)),none⟩,⟨(some 7),(.mrng (.tmp 6)),none⟩] false []) (.block 0 (.loop c123L0)))
def r123 : List ARes:=[]
def c124 : ACode:=(.seq (.region [⟨(some 5),(.mov (.const (.bool false))),none⟩] false []) (.seq (.region [⟨(some 6),(.load false 1 (.tmp 2)),none⟩,⟨(some 7),(.mov (.tmp 0)),none⟩,⟨(some 8),(.call (.tmp 6) [(.tmp 7)]),none⟩,⟨(some 5),(.mov (.tmp 8)),none⟩] false []) .ret))
def r124 : List ARes:=[(.tmp 5)]
def c125L0 : ACode:=(.seq (.seq (.region [⟨(some 24),(.mov (.tmp 4)),none⟩,⟨(some 25),(.faddr 1 (.tmp 1)),none⟩,⟨(some 26),(.load false 1 (.tmp 25)),none⟩,⟨(some 27),(.len 0 (.tmp 26)),none⟩,⟨(some 28),(.bin .lss 3 (.tmp 24) (.tmp 27)),none⟩] false []) (.cond (.tmp 28) .skip (.exit 2))) (.seq (.block 3 (.seq (.region [⟨(some 31),(.faddr 0 (.tmp 1)),none⟩,⟨(some 32),(.load false 1 (.tmp 31)),none⟩,⟨(some 33),(.mov (.tmp 3)),none⟩,⟨(some 34),(.iaddr none 2 (.tmp 32) (.tmp 33)),none⟩,⟨(some 35),(.load true 2 (.tmp 34)),none⟩,⟨(some 5),(.alloc [(.sc (.int .i64 0)),(.sc (.int .i64 0))]),none⟩,⟨none,(.store 2 (.tmp 5) (.tmp 35)),none⟩] false []) (.seq (.region [⟨(some 36),(.faddr 1 (.tmp 1)),none⟩,⟨(some 37),(.load false 1 (.tmp 36)),none⟩,⟨(some 38),(.mov (.tmp 4)),none⟩,⟨(some 39),(.iaddr none 2 (.tmp 37) (.tmp 38)),none⟩,⟨(some 40),(.load true 2 (.tmp 39)),none⟩,⟨(some 6),(.alloc [(.sc (.int .i64 0)),(.sc (.int .i64 0))]),none⟩,⟨none,(.store 2 (.tmp 6) (.tmp 40)),none⟩] false []) (.seq (.region [⟨(some 41),(.faddr 0 (.tmp 5)),none⟩,⟨(some 42),(.load false 1 (.tmp 41)),none⟩,⟨(some 43),(.faddr 0 (.tmp 6)),none⟩,⟨(some 44),(.load false 1 (.tmp 43)),none⟩,⟨(some 45),(.faddr 1 (.tmp 6)),none⟩,⟨(some 46),(.load false 1 (.tmp 45)),none⟩,⟨(some 47),(.bin .add 3 (.tmp 44) (.tmp 46)),none⟩,⟨(some 48),(.bin .lss 3 (.tmp 42) (.tmp 47)),none⟩,⟨(some 49),(.mov (.tmp 48)),none⟩,⟨(some 50),(.faddr 0 (.tmp 6)),(some ((some 49),true))⟩,⟨(some 51),(.load false 1 (.tmp 50)),(some ((some 49),true))⟩,⟨(some 52),(.faddr 0 (.tmp 5)),(some ((some 49),true))⟩,⟨(some 53),(.load false 1 (.tmp 52)),(some ((some 49),true))⟩,⟨(some 54),(.faddr 1 (.tmp 5)),(some ((some 49),true))⟩,⟨(some 55),(.load false 1 (.tmp 54)),(some ((some 49),true))⟩,⟨(some 56),(.bin .add 3 (.tmp 53) (.tmp 55)),(some ((some 49),true))⟩,⟨(some 57),(.bin .lss 3 (.tmp 51) (.tmp 56)),(some ((some 49),true))⟩,⟨(some 58),(.pick (.tmp 49) (.tmp 57) (.const (.bool false))),none⟩] false []) (.cond (.tmp 58) (.seq (.region [⟨(some 2),(.mov (.const (.bool false))),none⟩] false []) .ret) .skip))))) (.region [⟨(some 29),(.mov (.tmp 4)),none⟩,⟨(some 30),(.bin .add 3 (.tmp 29) (.const (.int .i64 1))),none⟩,⟨(some 4),(.mov (.tmp 30)),none⟩] false [])))
def c125R1 : ACode:=(.region [⟨(some 22),(.mov (.tmp 3)),none⟩,⟨(some 23),(.bin .add 3 (.tmp 22) (.const (.int .i64 1))),none⟩,⟨(some 3),(.mov (.tmp 23)),none⟩] false [])
def c125L2 : ACode:=(.seq (.seq (.region [⟨(some 17),(.mov (.tmp 3)),none⟩,⟨(some 18),(.faddr 0 (.tmp 1)),none⟩,⟨(some 19),(.load false 1 (.tmp 18)),none⟩,⟨(some 20),(.len 0 (.tmp 19)),none⟩,⟨(some 21),(.bin .lss 3 (.tmp 17) (.tmp 20)),none⟩] false []) (.cond (.tmp 21) .skip (.exit 0))) (.seq (.block 1 (.seq (.region [⟨(some 4),(.mov (.const (.int .i64 0))),none⟩] false []) (.block 2 (.loop c125L0)))) c125R1))
def c125R3 : ACode:=(.seq (.region [⟨(some 2),(.mov (.const (.bool true))),none⟩] false []) .ret)
def c125 : ACode:=(.seq (.region [⟨(some 1),(.box 2 (.tmp 0)),none⟩,⟨(some 2),(.mov (.const (.bool false))),none⟩] false []) (.seq (.seq (.region [⟨(some 7),(.faddr 0 (.tmp 1)),none⟩,⟨(some 8),(.load false 1 (.tmp 7)),none⟩,⟨(some 9),(.call (.func 167) [(.tmp 8)]),none⟩,⟨(some 10),(.un .not (.tmp 9)),none⟩,⟨(some 11),(.mov (.tmp 10)),none⟩,⟨(some 12),(.faddr 1 (.tmp 1)),(some ((some 11),false))⟩,⟨(some 13),(.load false 1 (.tmp 12)),(some ((some 11),false))⟩,⟨(some 14),(.call (.func 167) [(.tmp 13)]),(some ((some 11),false))⟩,⟨(some 15),(.un .not (.tmp 14)),(some ((some 11),false))⟩,⟨(some 16),(.pick (.tmp 11) (.const (.bool true)) (.tmp 15)),none⟩] false []) (.cond (.tmp 16) (.seq (.region [⟨(some 2),(.mov (.const (.bool false))),none⟩] false []) .ret) .skip)) (.seq (.seq (.region [⟨(some 3),(.mov (.const (.int .i64 0))),none⟩] false []) (.block 0 (.loop c125L2))) c125R3)))
def r125 : List ARes:=[(.tmp 2)]
def c126L0 : ACode:=(.seq (.seq (.region [⟨(some 12),(.mov (.tmp 5)),none⟩,⟨(some 13),(.mov (.tmp 0)),none⟩,⟨(some 14),(.mov (.tmp 4)),none⟩,⟨(some 15),(.iaddr none 2 (.tmp 13) (.tmp 14)),none⟩,⟨(some 16),(.faddr 1 (.tmp 15)),none⟩,⟨(some 17),(.load false 1 (.tmp 16)),none⟩,⟨(some 18),(.bin .lss 3 (.tmp 12) (.tmp 17)),none⟩] false []) (.cond (.tmp 18) .skip (.exit 2))) (.seq (.block 3 (.region [⟨(some 21),(.mov (.tmp 3)),none⟩,⟨(some 22),(.mov (.tmp 0)),none⟩,⟨(some 23),(.mov (.tmp 4)),none⟩,⟨(some 24),(.iaddr none 2 (.tmp 22) (.tmp 23)),none⟩,⟨(some 25),(.faddr 0 (.tmp 24)),none⟩,⟨(some 26),(.load false 1 (.tmp 25)),none⟩,⟨(some 27),(.mov (.tmp 5)),none⟩,⟨(some 28),(.bin .add 3 (.tmp 26) (.tmp 27)),none⟩,⟨(some 29),(.bslice 1 [(.sc (.int .i64 0))] 1 [(0,(.tmp 28))]),none⟩,⟨(some 30),(.app 1 8 (.tmp 21) (.tmp 29)),none⟩,⟨(some 3),(.mov (.tmp 30)),none⟩] false [])) (.region [⟨(some 19),(.mov (.tmp 5)),none⟩,⟨(some 20),(.bin .add 3 (.tmp 19) (.const (.int .i64 1))),none⟩,⟨(some 5),(.mov (.tmp 20)),none⟩] false [])))
def c126R1 : ACode:=(.region [⟨(some 10),(.mov (.tmp 4)),none⟩,⟨(some 11),(.bin .add 3 (.tmp 10) (.const (.int .i64 1))),none⟩,⟨(some 4),(.mov (.tmp 11)),none⟩] false [])
def c126L2 : ACode:=(.seq (.seq (.region [⟨(some 6),(.mov (.tmp 4)),none⟩,⟨(some 7),(.mov (.tmp 0)),none⟩,⟨(some 8),(.len 0 (.tmp 7)),none⟩,⟨(some 9),(.bin .lss 3 (.tmp 6) (.tmp 8)),none⟩] false []) (.cond (.tmp 9) .skip (.exit 0))) (.seq (.block 1 (.seq (.region [⟨(some 5),(.mov (.const (.int .i64 0))),none⟩] false []) (.block 2 (.loop c126L0)))) c126R1))
def c126R3 : ACode:=(.seq (.region [⟨(some 31),(.mov (.tmp 3)),none⟩,⟨(some 2),(.mov (.tmp 31)),none⟩] false []) .ret)
def c126 : ACode:=(.seq (.region [⟨(some 2),(.mov (.const (.slice none 0 0))),none⟩] false []) (.seq (.region [⟨(some 3),(.mov (.const (.slice none 0 0))),none⟩] false []) (.seq (.seq (.region [⟨(some 4),(.mov (.const (.int .i64 0))),none⟩] false []) (.block 0 (.loop c126L2))) c126R3)))
def r126 : List ARes:=[(.tmp 2)]
def c127L0 : ACode:=(.seq (.seq (.region [⟨(some 7),(.mov (.tmp 6)),none⟩,⟨(some 8),(.faddr 0 (.tmp 2)),none⟩,⟨(some 9),(.load false 1 (.tmp 8)),none⟩,⟨(some 10),(.len 0 (.tmp 9)),none⟩,⟨(some 11),(.bin .lss 3 (.tmp 7) (.tmp 10)),none⟩] false []) (.cond (.tmp 11) .skip (.exit 0))) (.seq (.block 1 (.region [⟨(some 14),(.mov (.tmp 5)),none⟩,⟨(some 15),(.faddr 0 (.tmp 2)),none⟩,⟨(some 16),(.load false 1 (.tmp 15)),none⟩,⟨(some 17),(.mov (.tmp 6)),none⟩,⟨(some 18),(.iaddr none 1 (.tmp 16) (.tmp 17)),none⟩,⟨(some 19),(.load false 1 (.tmp 18)),none⟩,⟨(some 20),(.mov (.tmp 1)),none⟩,⟨(some 21),(.bin .eql 3 (.tmp 19) (.tmp 20)),none⟩,⟨(some 22),(.mov (.tmp 21)),none⟩,⟨(some 23),(.mov (.tmp 1)),(some ((some 22),false))⟩,⟨(some 24),(.bin .eql 3 (.tmp 23) (.const (.int .i64 (-3)))),(some ((some 22),false))⟩,⟨(some 25),(.mov (.tmp 24)),(some ((some 22),false))⟩,⟨(some 26),(.faddr 0 (.tmp 2)),(some ((some 25),true))⟩,⟨(some 27),(.load false 1 (.tmp 26)),(some ((some 25),true))⟩,⟨(some 28),(.mov (.tmp 6)),(some ((some 25),true))⟩,⟨(some 29),(.iaddr none 1 (.tmp 27) (.tmp 28)),(some ((some 25),true))⟩,⟨(some 30),(.load false 1 (.tmp 29)),(some ((some 25),true))⟩,⟨(some 31),(.bin .geq 3 (.tmp 30) (.const (.int .i64 0))),(some ((some 25),true))⟩,⟨(some 32),(.pick (.tmp 25) (.tmp 31) (.const (.bool false))),(some ((some 22),false))⟩,⟨(some 33),(.pick (.tmp 22) (.const (.bool true)) (.tmp 32)),none⟩,⟨(some 34),(.bslice 1 [(.sc (.bool false))] 1 [(0,(.tmp 33))]),none⟩,⟨(some 35),(.app 1 1 (.tmp 14) (.tmp 34)),none⟩,⟨(some 5),(.mov (.tmp 35)),none⟩] false [])) (.region [⟨(some 12),(.mov (.tmp 6)),none⟩,⟨(some 13),(.bin .add 3 (.tmp 12) (.const (.int .i64 1))),none⟩,⟨(some 6),(.mov (.tmp 13)),none⟩] false [])))
def c127R1 : ACode:=(.seq (.region [⟨(some 36),(.mov (.tmp 5)),none⟩,⟨(some 37),(.call (.func 48) [(.tmp 36)]),none⟩,⟨(some 4),(.mov (.tmp 37)),none⟩] false []) .ret)
def c127 : ACode:=(.seq (.region [⟨(some 2),(.box 2 (.tmp 0)),none⟩,⟨(some 4),(.mov (.const (.slice none 0 0))),none⟩] false []) (.seq (.region [⟨(some 5),(.mov (.const (.slice none 0 0))),none⟩] false []) (.seq (.seq (.region [⟨(some 6),(.mov (.const (.int .i64 0))),none⟩] false []) (.block 0 (.loop c127L0))) c127R1)))
def r127 : List ARes:=[(.tmp 4)]
def c128 : ACode:=(.seq (.region [⟨(some 2),(.box 2 (.tmp 0)),none⟩,⟨(some 3),(.box 2 (.tmp 1)),none⟩,⟨(some 4),(.mov (.const (.bool false))),none⟩] false []) (.seq (.region [⟨(some 5),(.faddr 0 (.tmp 2)),none⟩,⟨(some 6),(.load false 1 (.tmp 5)),none⟩,⟨(some 7),(.faddr 0 (.tmp 3)),none⟩,⟨(some 8),(.load false 1 (.tmp 7)),none⟩,⟨(some 9),(.call (.func 45) [(.tmp 6),(.tmp 8)]),none⟩,⟨(some 10),(.mov (.tmp 9)),none⟩,⟨(some 11),(.faddr 1 (.tmp 2)),(some ((some 10),true))⟩,⟨(some 12),(.load false 1 (.tmp 11)),(some ((some 10),true))⟩,⟨(some 13),(.faddr 1 (.tmp 3)),(some ((some 10),true))⟩,⟨(some 14),(.load false 1 (.tmp 13)),(some ((some 10),true))⟩,⟨(some 15),(.call (.func 45) [(.tmp 12),(.tmp 14)]),(some ((some 10),true))⟩,⟨(some 16),(.pick (.tmp 10) (.tmp 15) (.const (.bool false))),none⟩,⟨(some 4),(.mov (.tmp 16)),none⟩] false []) .ret))
def r128 : List ARes:=[(.tmp 4)]
def c129L0 : ACode:=(.seq (.region [⟨(some 12),(.bin .lss 3 (.tmp 11) (.tmp 10)),none⟩] false []) (.seq (.cond (.tmp 12) .skip (.exit 0)) (.seq (.block 1 (.seq (.region [⟨(some 13),(.iaddr none 2 (.tmp 9) (.tmp 11)),none⟩,⟨(some 14),(.load true 2 (.tmp 13)),none⟩,⟨(some 5),(.alloc [(.sc (.int .i64 0)),(.sc (.int .i64 0))]),none⟩,⟨none,(.store 2 (.tmp 5) (.tmp 14)),none⟩] false []) (.region [⟨(some 15),(.faddr 0 (.tmp 3)),none⟩,⟨(some 16),(.load false 1 (.tmp 15)),none⟩,⟨(some 17),(.load true 2 (.tmp 5)),none⟩,⟨(some 18),(.bslice 2 [(.sc (.int .i64 0)),(.sc (.int .i64 0))] 1 [(0,(.tmp 17))]),none⟩,⟨(some 19),(.app 2 16 (.tmp 16) (.tmp 18)),none⟩,⟨(some 20),(.faddr 0 (.tmp 3)),none⟩,⟨none,(.store 1 (.tmp 20) (.tmp 19)),none⟩] false []))) (.region [⟨(some 21),(.bin .add 3 (.tmp 11) (.const (.int .i64 1))),none⟩,⟨(some 11),(.mov (.tmp 21)),none⟩] false []))))
def c129L1 : ACode:=(.seq (.region [⟨(some 26),(.bin .lss 3 (.tmp 25) (.tmp 24)),none⟩] false []) (.seq (.cond (.tmp 26) .skip (.exit 2)) (.seq (.block 3 (.seq (.region [⟨(some 27),(.iaddr none 2 (.tmp 23) (.tmp 25)),none⟩,⟨(some 28),(.load true 2 (.tmp 27)),none⟩,⟨(some 7),(.alloc [(.sc (.int .i64 0)),(.sc (.int .i64 0))]),none⟩,⟨none,(.store 2 (.tmp 7) (.tmp 28)),none⟩] false []) (.region [⟨(some 29),(.faddr 1 (.tmp 3)),none⟩,⟨(some 30),(.load false 1 (.tmp 29)),none⟩,⟨(some 31),(.load true 2 (.tmp 7)),none⟩,⟨(some 32),(.bslice 2 [(.sc (.int .i64 0)),(.sc (.int .i64 0))] 1 [(0,(.tmp 31))]),none⟩,⟨(some 33),(.app 2 16 (.tmp 30) (.tmp 32)),none⟩,⟨(some 34),(.faddr 1 (.tmp 3)),none⟩,⟨none,(.store 1 (.tmp 34) (.tmp 33)),none⟩] false []))) (.region [⟨(some 35),(.bin .add 3 (.tmp 25) (.const (.int .i64 1))),none⟩,⟨(some 25),(.mov (.tmp 35)),none⟩] false []))))
def c129R2 : ACode:=(.seq (.region [⟨(some 36),(.load true 2 (.tmp 3)),none⟩,⟨none,(.store 2 (.tmp 2) (.tmp 36)),none⟩] false []) .ret)
def c129R3 : ACode:=(.seq (.seq (.region [⟨(some 22),(.faddr 1 (.tmp 1)),none⟩,⟨(some 23),(.load false 1 (.tmp 22)),none⟩,⟨(some 24),(.len 0 (.tmp 23)),none⟩,⟨(some 25),(.mov (.const (.int .i64 0))),none⟩] false []) (.block 2 (.loop c129L1))) c129R2)
def c129 : ACode:=(.seq (.region [⟨(some 1),(.box 2 (.tmp 0)),none⟩,⟨(some 2),(.alloc [(.sc (.slice none 0 0)),(.sc (.slice none 0 0))]),none⟩] false []) (.seq (.region [⟨(some 3),(.alloc [(.sc (.slice none 0 0)),(.sc (.slice none 0 0))]),none⟩] false []) (.seq (.seq (.region [⟨(some 8),(.faddr 0 (.tmp 1)),none⟩,⟨(some 9),(.load false 1 (.tmp 8)),none⟩,⟨(some 10),(.len 0 (.tmp 9)),none⟩,⟨(some 11),(.mov (.const (.int .i64 0))),none⟩] false []) (.block 0 (.loop c129L0))) c129R3)))
def r129 : List ARes:=[(.cell 2 true 2)]
def c130L0 : ACode:=(.seq (.seq (.region [⟨(some 8),(.mov (.tmp 6)),none⟩,⟨(some 9),(.faddr 0 (.tmp 2)),none⟩,⟨(some 10),(.load false 1 (.tmp 9)),none⟩,⟨(some 11),(.len 0 (.tmp 10)),none⟩,⟨(some 12),(.bin .lss 3 (.tmp 8) (.tmp 11)),none⟩] false []) (.cond (.tmp 12) .skip (.exit 0))) (.seq (.block 1 (.region [⟨(some 15),(.mov (.tmp 5)),none⟩,⟨(some 16),(.faddr 0 (.tmp 2)),none⟩,⟨(some 17),(.load false 1 (.tmp 16)),none⟩,⟨(some 18),(.mov (.tmp 6)),none⟩,⟨(some 19),(.iaddr none 1 (.tmp 17) (.tmp 18)),none⟩,⟨(some 20),(.load false 1 (.tmp 19)),none⟩,⟨(some 21),(.bin .gtr 3 (.tmp 20) (.const (.int .i64 (-2)))),none⟩,⟨(some 22),(.mov (.tmp 21)),none⟩,⟨(some 23),(.faddr 0 (.tmp 2)),(some ((some 22),true))⟩,⟨(some 24),(.load false 1 (.tmp 23)),(some ((some 22),true))⟩,⟨(some 25),(.mov (.tmp 6)),(some ((some 22),true))⟩,⟨(some 26),(.iaddr none 1 (.tmp 24) (.tmp 25)),(some ((some 22),true))⟩,⟨(some 27),(.load false 1 (.tmp 26)),(some ((some 22),true))⟩,⟨(some 28),(.mov (.tmp 1)),(some ((some 22),true))⟩,⟨(some 29),(.bin .neq 3 (.tmp 27) (.tmp 28)),(some ((some 22),true))⟩,⟨(some 30),(.mov (.tmp 29)),(some ((some 22),true))⟩,⟨(some 31),(.mov (.tmp 1)),(some ((some 30),false))⟩,⟨(some 32),(.bin .lss 3 (.tmp 31) (.const (.int .i64 0))),(some ((some 30),false))⟩,⟨(some 33),(.pick (.tmp 30) (.const (.bool true)) (.tmp 32)),(some ((some 22),true))⟩,⟨(some 34),(.pick (.tmp 22) (.tmp 33) (.const (.bool false))),none⟩,⟨(some 35),(.bslice 1 [(.sc (.bool false))] 1 [(0,(.tmp 34))]),none⟩,⟨(some 36),(.app 1 1 (.tmp 15) (.tmp 35)),none⟩,⟨(some 5),(.mov (.tmp 36)),none⟩] false [])) (.region [⟨(some 13),(.mov (.tmp 6)),none⟩,⟨(some 14),(.bin .add 3 (.tmp 13) (.const (.int .i64 1))),none⟩,⟨(some 6),(.mov (.tmp 14)),none⟩] false [])))
def c130R1 : ACode:=(.seq (.region [⟨(some 37),(.mov (.tmp 5)),none⟩,⟨(some 38),(.call (.func 48) [(.tmp 37)]),none⟩,⟨(some 39),(.build [(.sc (.slice none 0 0)),(.sc (.slice none 0 0))] [(0,(1,(.tmp 38)))]),none⟩,⟨(some 7),(.alloc [(.sc (.slice none 0 0)),(.sc (.slice none 0 0))]),none⟩,⟨none,(.store 2 (.tmp 7) (.tmp 39)),none⟩] false []) (.seq (.seq (.region [⟨(some 40),(.mov (.tmp 1)),none⟩,⟨(some 41),(.bin .geq 3 (.tmp 40) (.const (.int .i64 0))),none⟩] false []) (.cond (.tmp 41) (.region [⟨(some 42),(.load true 2 (.tmp 2)),none⟩,⟨(some 43),(.mov (.tmp 1)),none⟩,⟨(some 44),(.call (.func 127) [(.tmp 42),(.tmp 43)]),none⟩,⟨(some 45),(.faddr 1 (.tmp 7)),none⟩,⟨none,(.store 1 (.tmp 45) (.tmp 44)),none⟩] false []) .skip)) (.seq (.region [⟨(some 46),(.load true 2 (.tmp 7)),none⟩,⟨none,(.store 2 (.tmp 4) (.tmp 46)),none⟩] false []) .ret)))
def c130 : ACode:=(.seq (.region [⟨(some 2),(.box 2 (.tmp 0)),none⟩,⟨(some 4),(.alloc [(.sc (.slice none 0 0)),(.sc (.slice none 0 0))]),none⟩] false []) (.seq (.region [⟨(some 5),(.mov (.const (.slice none 0 0))),none⟩] false []) (.seq (.seq (.region [⟨(some 6),(.mov (.const (.int .i64 0))),none⟩] false []) (.block 0 (.loop c130L0))) c130R1)))
def r130 : List ARes:=[(.cell 4 true 2)]
def c131L0 : ACode:=(.seq (.seq (.region [⟨(some 16),(.mov (.tmp 10)),none⟩,⟨(some 17),(.mov (.tmp 1)),none⟩,⟨(some 18),(.mov (.tmp 2)),none⟩,⟨(some 19),(.bin .add 3 (.tmp 17) (.tmp 18)),none⟩,⟨(some 20),(.bin .lss 3 (.tmp 16) (.tmp 19)),none⟩] false []) (.cond (.tmp 20) .skip (.exit 0))) (.seq (.block 1 (.seq (.seq (.region [⟨(some 23),(.mov (.tmp 10)),none⟩,⟨(some 24),(.mov (.tmp 9)),none⟩,⟨(some 25),(.len 0 (.tmp 24)),none⟩,⟨(some 26),(.bin .eql 3 (.tmp 23) (.tmp 25)),none⟩] false []) (.cond (.tmp 26) (.region [⟨(some 27),(.mov (.tmp 9)),none⟩,⟨(some 28),(.mov (.tmp 3)),none⟩,⟨(some 29),(.bslice 1 [(.sc (.int .i64 0))] 1 [(0,(.tmp 28))]),none⟩,⟨(some 30),(.app 1 8 (.tmp 27) (.tmp 29)),none⟩,⟨(some 9),(.mov (.tmp 30)),none⟩] false []) .skip)) (.region [⟨(some 31),(.mov (.tmp 9)),none⟩,⟨(some 32),(.mov (.tmp 10)),none⟩,⟨(some 33),(.mov (.tmp 3)),none⟩,⟨(some 34),(.iaddr none 1 (.tmp 31) (.tmp 32)),none⟩,⟨none,(.store 1 (.tmp 34) (.tmp 33)),none⟩] false []))) (.region [⟨(some 21),(.mov (.tmp 10)),none⟩,⟨(some 22),(.bin .add 3 (.tmp 21) (.const (.int .i64 1))),none⟩,⟨(some 10),(.mov (.tmp 22)),none⟩] false [])))
def c131R1 : ACode:=(.seq (.region [⟨(some 35),(.mov (.tmp 9)),none⟩,⟨(some 36),(.faddr 0 (.tmp 4)),none⟩,⟨none,(.store 1 (.tmp 36) (.tmp 35)),none⟩] false []) (.seq (.region [⟨(some 37),(.load true 2 (.tmp 4)),none⟩,⟨none,(.store 2 (.tmp 8) (.tmp 37)),none⟩] false []) .ret))
def c131 : ACode:=(.seq (.region [⟨(some 4),(.box 2 (.tmp 0)),none⟩,⟨(some 8),(.alloc [(.sc (.slice none 0 0)),(.sc (.int .i64 0))]),none⟩] false []) (.seq (.region [⟨(some 11),(.bslice 1 [(.sc (.int .i64 0))] 0 []),none⟩,⟨(some 12),(.faddr 0 (.tmp 4)),none⟩,⟨(some 13),(.load false 1 (.tmp 12)),none⟩,⟨(some 14),(.app 1 8 (.tmp 11) (.tmp 13)),none⟩,⟨(some 9),(.mov (.tmp 14)),none⟩] false []) (.seq (.seq (.region [⟨(some 15),(.mov (.tmp 1)),none⟩,⟨(some 10),(.mov (.tmp 15)),none⟩] false []) (.block 0 (.loop c131L0))) c131R1)))
def r131 : List ARes:=[(.cell 8 true 2)]
def c133 : ACode:=(.seq (.region [⟨(some 3),(.mov (.const (.bool false))),none⟩] false []) (.seq (.region [⟨(some 4),(.mov (.tmp 0)),none⟩,⟨(some 5),(.load false 1 (.tmp 1)),none⟩,⟨(some 6),(.bin .neq 3 (.tmp 4) (.tmp 5)),none⟩,⟨(some 3),(.mov (.tmp 6)),none⟩] false []) .ret))
def r133 : List ARes:=[(.tmp 3)]
def c158 : ACode:=(.seq (.region [⟨(some 2),(.box 2 (.tmp 0)),none⟩,⟨(some 3),(.mov (.const (.bool false))),none⟩] false []) (.seq (.region [⟨(some 4),(.faddr 0 (.tmp 2)),none⟩,⟨(some 5),(.load false 1 (.tmp 4)),none⟩,⟨(some 6),(.load true 2 (.tmp 1)),none⟩,⟨(some 7),(.call (.func 107) [(.tmp 6)]),none⟩,⟨(some 8),(.bin .lss 3 (.tmp 5) (.tmp 7)),none⟩,⟨(some 9),(.mov (.tmp 8)),none⟩,⟨(some 10),(.faddr 0 (.tmp 1)),(some ((some 9),true))⟩,⟨(some 11),(.load false 1 (.tmp 10)),(some ((some 9),true))⟩,⟨(some 12),(.load true 2 (.tmp 2)),(some ((some 9),true))⟩,⟨(some 13),(.call (.func 107) [(.tmp 12)]),(some ((some 9),true))⟩,⟨(some 14),(.bin .lss 3 (.tmp 11) (.tmp 13)),(some ((some 9),true))⟩,⟨(some 15),(.pick (.tmp 9) (.tmp 14) (.const (.bool false))),none⟩,⟨(some 3),(.mov (.tmp 15)),none⟩] true [(1,3),(7,9)]) .ret))
def r158 : List ARes:=[(.tmp 3)]
def c159 : ACode:=(.seq (.region [⟨(some 5),(.mov (.tmp 0)),none⟩,⟨(some 6),(.len 0 (.tmp 5)),none⟩,⟨(some 4),(.mov (.tmp 6)),none⟩] false []) (.region [⟨(some 7),(.mov (.tmp 0)),none⟩,⟨(some 8),(.mov (.tmp 4)),none⟩,⟨(some 9),(.mov (.tmp 4)),none⟩,⟨(some 10),(.conv .u64 (.tmp 9)),none⟩,⟨(some 11),(.call (.func 181) [(.tmp 10)]),none⟩,⟨(some 12),(.mov (.tmp 1)),none⟩,⟨(some 13),(.call (.func 180) [(.tmp 7),(.const (.int .i64 0)),(.tmp 8),(.tmp 11),(.tmp 12)]),none⟩] false []))
def r159 : List ARes:=[]
def c160 : ACode:=(.seq (.region [⟨(some 2),(.box 2 (.tmp 0)),none⟩,⟨(some 3),(.box 2 (.tmp 1)),none⟩,⟨(some 4),(.mov (.const (.int .i64 0))),none⟩] false []) (.seq (.region [⟨(some 5),(.faddr 0 (.tmp 2)),none⟩,⟨(some 6),(.load false 1 (.tmp 5)),none⟩,⟨(some 7),(.faddr 0 (.tmp 3)),none⟩,⟨(some 8),(.load false 1 (.tmp 7)),none⟩,⟨(some 9),(.bin .sub 3 (.tmp 6) (.tmp 8)),none⟩,⟨(some 4),(.mov (.tmp 9)),none⟩] false []) .ret))
def r160 : List ARes:=[(.tmp 4)]
def c161 : ACode:=(.seq (.region [⟨(some 6),(.mov (.const (.slice none 0 0))),none⟩] false []) (.seq (.region [⟨(some 10),(.mov (.tmp 0)),none⟩,⟨(some 11),(.mov (.tmp 1)),none⟩,⟨(some 12),(.slice 2 (.tmp 10) (some (.tmp 11)) none none),none⟩] false []) (.seq (.region [⟨(some 13),(.mov (.tmp 2)),none⟩,⟨(some 14),(.len 0 (.tmp 13)),none⟩,⟨(some 7),(.mov (.tmp 14)),none⟩] false []) (.seq (.seq (.region [⟨(some 15),(.mov (.tmp 7)),none⟩,⟨(some 16),(.bin .eql 3 (.tmp 15) (.const (.int .i64 0))),none⟩] false []) (.cond (.tmp 16) (.seq (.region [⟨(some 17),(.mov (.tmp 0)),none⟩,⟨(some 6),(.mov (.tmp 17)),none⟩] false []) .ret) .skip)) (.seq (.region [⟨(some 18),(.mov (.tmp 0)),none⟩,⟨(some 19),(.len 0 (.tmp 18)),none⟩,⟨(some 8),(.mov (.tmp 19)),none⟩] false []) (.seq (.seq (.region [⟨(some 20),(.mov (.tmp 1)),none⟩,⟨(some 21),(.mov (.tmp 8)),none⟩,⟨(some 22),(.bin .eql 3 (.tmp 20) (.tmp 21)),none⟩] false []) (.cond (.tmp 22) (.seq (.region [⟨(some 23),(.mov (.tmp 0)),none⟩,⟨(some 24),(.mov (.tmp 2)),none⟩,⟨(some 25),(.app 2 16 (.tmp 23) (.tmp 24)),none⟩,⟨(some 6),(.mov (.tmp 25)),none⟩] false []) .ret) .skip)) (.seq (.seq (.region [⟨(some 26),(.mov (.tmp 8)),none⟩,⟨(some 27),(.mov (.tmp 7)),none⟩,⟨(some 28),(.bin .add 3 (.tmp 26) (.tmp 27)),none⟩,⟨(some 29),(.mov (.tmp 0)),none⟩,⟨(some 30),(.cap (.tmp 29)),none⟩,⟨(some 31),(.bin .gtr 3 (.tmp 28) (.tmp 30)),none⟩] false []) (.cond (.tmp 31) (.seq (.region [⟨(some 32),(.mov (.tmp 0)),none⟩,⟨(some 33),(.mov (.tmp 1)),none⟩,⟨(some 34),(.slice 2 (.tmp 32) none (some (.tmp 33)) none),none⟩,⟨(some 35),(.mov (.tmp 8)),none⟩,⟨(some 36),(.mov (.tmp 7)),none⟩,⟨(some 37),(.bin .add 3 (.tmp 35) (.tmp 36)),none⟩,⟨(some 38),(.mov (.tmp 1)),none⟩,⟨(some 39),(.bin .sub 3 (.tmp 37) (.tmp 38)),none⟩,⟨(some 40),(.appz 2 16 [(.sc (.int .i64 0)),(.sc (.int .i64 0))] (.tmp 34) (.tmp 39)),none⟩,⟨(some 9),(.mov (.tmp 40)),none⟩] false []) (.seq (.region [⟨(some 41),(.mov (.tmp 9)),none⟩,⟨(some 42),(.mov (.tmp 1)),none⟩,⟨(some 43),(.slice 2 (.tmp 41) (some (.tmp 42)) none none),none⟩,⟨(some 44),(.mov (.tmp 2)),none⟩,⟨(some 45),(.copy 2 (.tmp 43) (.tmp 44)),none⟩] false []) (.seq (.region [⟨(some 46),(.mov (.tmp 9)),none⟩,⟨(some 47),(.mov (.tmp 1)),none⟩,⟨(some 48),(.mov (.tmp 7)),none⟩,⟨(some 49),(.bin .add 3 (.tmp 47) (.tmp 48)),none⟩,⟨(some 50),(.slice 2 (.tmp 46) (some (.tmp 49)) none none),none⟩,⟨(some 51),(.mov (.tmp 0)),none⟩,⟨(some 52),(.mov (.tmp 1)),none⟩,⟨(some 53),(.slice 2 (.tmp 51) (some (.tmp 52)) none none),none⟩,⟨(some 54),(.copy 2 (.tmp 50) (.tmp 53)),none⟩] true []) (.seq (.region [⟨(some 55),(.mov (.tmp 9)),none⟩,⟨(some 6),(.mov (.tmp 55)),none⟩] false []) .ret)))) .skip)) (.seq (.region [⟨(some 56),(.mov (.tmp 0)),none⟩,⟨(some 57),(.mov (.tmp 8)),none⟩,⟨(some 58),(.mov (.tmp 7)),none⟩,⟨(some 59),(.bin .add 3 (.tmp 57) (.tmp 58)),none⟩,⟨(some 60),(.slice 2 (.tmp 56) none (some (.tmp 59)) none),none⟩,⟨(some 0),(.mov (.tmp 60)),none⟩] false []) (.seq (.seq (.region [⟨(some 61),(.mov (.tmp 2)),none⟩,⟨(some 62),(.mov (.tmp 0)),none⟩,⟨(some 63),(.mov (.tmp 1)),none⟩,⟨(some 64),(.mov (.tmp 7)),none⟩,⟨(some 65),(.bin .add 3 (.tmp 63) (.tmp 64)),none⟩,⟨(some 66),(.slice 2 (.tmp 62) (some (.tmp 65)) none none),none⟩,⟨(some 67),(.call (.func 162) [(.tmp 61),(.tmp 66)]),none⟩,⟨(some 68),(.un .not (.tmp 67)),none⟩] false []) (.cond (.tmp 68) (.seq (.region [⟨(some 69),(.mov (.tmp 0)),none⟩,⟨(some 70),(.mov (.tmp 1)),none⟩,⟨(some 71),(.mov (.tmp 7)),none⟩,⟨(some 72),(.bin .add 3 (.tmp 70) (.tmp 71)),none⟩,⟨(some 73),(.slice 2 (.tmp 69) (some (.tmp 72)) none none),none⟩,⟨(some 74),(.mov (.tmp 0)),none⟩,⟨(some 75),(.mov (.tmp 1)),none⟩,⟨(some 76),(.slice 2 (.tmp 74) (some (.tmp 75)) none none),none⟩,⟨(some 77),(.copy 2 (.tmp 73) (.tmp 76)),none⟩] true []) (.seq (.region [⟨(some 78),(.mov (.tmp 0)),none⟩,⟨(some 79),(.mov (.tmp 1)),none⟩,⟨(some 80),(.slice 2 (.tmp 78) (some (.tmp 79)) none none),none⟩,⟨(some 81),(.mov (.tmp 2)),none⟩,⟨(some 82),(.copy 2 (.tmp 80) (.tmp 81)),none⟩] false []) (.seq (.region [⟨(some 83),(.mov (.tmp 0)),none⟩,⟨(some 6),(.mov (.tmp 83)),none⟩] false []) .ret))) .skip)) (.seq (.region [⟨(some 84),(.mov (.tmp 0)),none⟩,⟨(some 85),(.mov (.tmp 8)),none⟩,⟨(some 86),(.slice 2 (.tmp 84) (some (.tmp 85)) none none),none⟩,⟨(some 87),(.mov (.tmp 2)),none⟩,⟨(some 88),(.copy 2 (.tmp 86) (.tmp 87)),none⟩] false []) (.seq (.region [⟨(some 89),(.mov (.tmp 0)),none⟩,⟨(some 90),(.mov (.tmp 1)),none⟩,⟨(some 91),(.slice 2 (.tmp 89) (some (.tmp 90)) none none),none⟩,⟨(some 92),(.mov (.tmp 7)),none⟩,⟨(some 93),(.call (.func 163) [(.tmp 91),(.tmp 92)]),none⟩] false []) (.seq (.region [⟨(some 94),(.mov (.tmp 0)),none⟩,⟨(some 6),(.mov (.tmp 94)),none⟩] false []) .ret))))))))))))
def r161 : List ARes:=[(.tmp 6)]
def c165 : ACode:=(.seq (.region [⟨(some 4),(.mov (.const (.slice none 0 0))),none⟩] false []) (.seq (.seq (.region [⟨(some 5),(.mov (.tmp 1)),none⟩,⟨(some 6),(.bin .lss 3 (.tmp 5) (.const (.int .i64 0))),none⟩] false []) (.cond (.tmp 6) (.region [⟨(some 7),.stop,none⟩,⟨none,.stop,none⟩] false []) .skip)) (.seq (.seq (.region [⟨(some 8),(.mov (.tmp 1)),none⟩,⟨(some 9),(.mov (.tmp 0)),none⟩,⟨(some 10),(.cap (.tmp 9)),none⟩,⟨(some 11),(.mov (.tmp 0)),none⟩,⟨(some 12),(.len 0 (.tmp 11)),none⟩,⟨(some 13),(.bin .sub 3 (.tmp 10) (.tmp 12)),none⟩,⟨(some 14),(.bin .sub 3 (.tmp 8) (.tmp 13)),none⟩,⟨(some 1),(.mov (.tmp 14)),none⟩] false []) (.seq (.region [⟨(some 15),(.mov (.tmp 1)),none⟩,⟨(some 16),(.bin .gtr 3 (.tmp 15) (.const (.int .i64 0))),none⟩] false []) (.cond (.tmp 16) (.region [⟨(some 17),(.mov (.tmp 0)),none⟩,⟨(some 18),(.mov (.tmp 0)),none⟩,⟨(some 19),(.cap (.tmp 18)),none⟩,⟨(some 20),(.slice 2 (.tmp 17) none (some (.tmp 19)) none),none⟩,⟨(some 21),(.mov (.tmp 1)),none⟩,⟨(some 22),(.appz 2 16 [(.sc (.int .i64 0)),(.sc (.int .i64 0))] (.tmp 20) (.tmp 21)),none⟩,⟨(some 23),(.mov (.tmp 0)),none⟩,⟨(some 24),(.len 0 (.tmp 23)),none⟩,⟨(some 25),(.slice 2 (.tmp 22) none (some (.tmp 24)) none),none⟩,⟨(some 0),(.mov (.tmp 25)),none⟩] false []) .skip))) (.seq (.region [⟨(some 26),(.mov (.tmp 0)),none⟩,⟨(some 4),(.mov (.tmp 26)),none⟩] false []) .ret))))
def r165 : List ARes:=[(.tmp 4)]
def c166 : ACode:=(.seq (.region [⟨(some 2),(.mov (.const (.bool false))),none⟩] false []) (.seq (.region [⟨(some 3),(.mov (.tmp 0)),none⟩,⟨(some 4),(.call (.func 40) [(.tmp 3)]),none⟩,⟨(some 5),(.mov (.tmp 4)),none⟩,⟨(some 6),(.mov (.tmp 0)),(some ((some 5),true))⟩,⟨(some 7),(.call (.func 43) [(.tmp 6)]),(some ((some 5),true))⟩,⟨(some 8),(.bin .leq 3 (.tmp 7) (.const (.int .i64 16384))),(some ((some 5),true))⟩,⟨(some 9),(.pick (.tmp 5) (.tmp 8) (.const (.bool false))),none⟩,⟨(some 10),(.mov (.tmp 9)),none⟩,⟨(some 11),(.mov (.tmp 0)),(some ((some 10),true))⟩,⟨(some 12),(.len 0 (.tmp 11)),(some ((some 10),true))⟩,⟨(some 13),(.bin .eql 3 (.tmp 12) (.const (.int .i64 0))),(some ((some 10),true))⟩,⟨(some 14),(.mov (.tmp 13)),(some ((some 10),true))⟩,⟨(some 15),(.mov (.tmp 0)),(some ((some 14),false))⟩,⟨(some 16),(.iaddr none 2 (.tmp 15) (.const (.int .i64 0))),(some ((some 14),false))⟩,⟨(some 17),(.faddr 0 (.tmp 16)),(some ((some 14),false))⟩,⟨(some 18),(.load false 1 (.tmp 17)),(some ((some 14),false))⟩,⟨(some 19),(.bin .geq 3 (.tmp 18) (.const (.int .i64 2))),(some ((some 14),false))⟩,⟨(some 20),(.pick (.tmp 14) (.const (.bool true)) (.tmp 19)),(some ((some 10),true))⟩,⟨(some 21),(.pick (.tmp 10) (.tmp 20) (.const (.bool false))),none⟩,⟨(some 2),(.mov (.tmp 21)),none⟩] false []) .ret))
def r166 : List ARes:=[(.tmp 2)]
def c167L0 : ACode:=(.seq (.seq (.region [⟨(some 4),(.mov (.tmp 3)),none⟩,⟨(some 5),(.mov (.tmp 0)),none⟩,⟨(some 6),(.len 0 (.tmp 5)),none⟩,⟨(some 7),(.bin .lss 3 (.tmp 4) (.tmp 6)),none⟩] false []) (.cond (.tmp 7) .skip (.exit 0))) (.seq (.block 1 (.seq (.region [⟨(some 10),(.mov (.tmp 0)),none⟩,⟨(some 11),(.mov (.tmp 3)),none⟩,⟨(some 12),(.iaddr none 2 (.tmp 10) (.tmp 11)),none⟩,⟨(some 13),(.faddr 0 (.tmp 12)),none⟩,⟨(some 14),(.load false 1 (.tmp 13)),none⟩,⟨(some 15),(.bin .lss 3 (.tmp 14) (.const (.int .i64 2))),none⟩,⟨(some 16),(.mov (.tmp 15)),none⟩,⟨(some 17),(.mov (.tmp 0)),(some ((some 16),false))⟩,⟨(some 18),(.mov (.tmp 3)),(some ((some 16),false))⟩,⟨(some 19),(.iaddr none 2 (.tmp 17) (.tmp 18)),(some ((some 16),false))⟩,⟨(some 20),(.faddr 0 (.tmp 19)),(some ((some 16),false))⟩,⟨(some 21),(.load false 1 (.tmp 20)),(some ((some 16),false))⟩,⟨(some 22),(.mov (.tmp 0)),(some ((some 16),false))⟩,⟨(some 23),(.mov (.tmp 3)),(some ((some 16),false))⟩,⟨(some 24),(.iaddr none 2 (.tmp 22) (.tmp 23)),(some ((some 16),false))⟩,⟨(some 25),(.faddr 1 (.tmp 24)),(some ((some 16),false))⟩,⟨(some 26),(.load false 1 (.tmp 25)),(some ((some 16),false))⟩,⟨(some 27),(.bin .add 3 (.tmp 21) (.tmp 26)),(some ((some 16),false))⟩,⟨(some 28),(.bin .gtr 3 (.tmp 27) (.const (.int .i64 16384))),(some ((some 16),false))⟩,⟨(some 29),(.pick (.tmp 16) (.const (.bool true)) (.tmp 28)),none⟩] true []) (.cond (.tmp 29) (.seq (.region [⟨(some 2),(.mov (.const (.bool false))),none⟩] false []) .ret) .skip))) (.region [⟨(some 8),(.mov (.tmp 3)),none⟩,⟨(some 9),(.bin .add 3 (.tmp 8) (.const (.int .i64 1))),none⟩,⟨(some 3),(.mov (.tmp 9)),none⟩] false [])))
def c167R1 : ACode:=(.seq (.region [⟨(some 30),(.mov (.tmp 0)),none⟩,⟨(some 31),(.call (.func 41) [(.tmp 30)]),none⟩,⟨(some 2),(.mov (.tmp 31)),none⟩] false []) .ret)
def c167 : ACode:=(.seq (.region [⟨(some 2),(.mov (.const (.bool false))),none⟩] false []) (.seq (.seq (.region [⟨(some 3),(.mov (.const (.int .i64 0))),none⟩] false []) (.block 0 (.loop c167L0))) c167R1))
def r167 : List ARes:=[(.tmp 2)]
noncomputable def ft : FT
 | 40 => some (.go true 31 r40 c40)
 | 41 => some (.go true 42 r41 c41)
 | 42 => some (.go true 19 r42 c42)
 | 43 => some (.go true 15 r43 c43)
 | 45 => some (.go true 26 r45 c45)
 | 49 => some (.go true 29 r49 c49)
 | 51 => some (.go true 91 r51 c51)
 | 52 => some (.go true 12 r52 c52)
 | 53 => some (.go true 11 r53 c53)
 | 54 => some (.go true 35 r54 c54)
 | 105 => some (.go true 7 r105 c105)
 | 106 => some (.go true 24 r106 c106)
 | 107 => some (.go true 8 r107 c107)
 | 108 => some (.go true 15 r108 c108)
 | 110 => some (.go true 57 r110 c110)
 | 113 => some (.go true 36 r113 c113)
 | 114 => some (.go true 9 r114 c114)
 | 115 => some (.go true 8 r115 c115)
 | 116 => some (.go true 19 r116 c116)
 | 117 => some (.go true 12 r117 c117)
 | 158 => some (.go true 16 r158 c158)
 | 160 => some (.go true 10 r160 c160)
 | 165 => some (.go false 27 r165 c165)
 | 111 => some (.eprim (ecloP 2 16))
 | 112 => some (.prim (repP 2 16))
 | 159 => some (.prim (sortP 160))
 | _ => none
end Go.VI
namespace Go.VI
def zR : List AV:=[.sc (.int .i64 0),.sc (.int .i64 0)]
theorem t_insR : c161 = insC 2 16 zR 162 163:=rfl
theorem t_repR : c112 = repC 2 16 zR 161 162 163 164:=rfl
theorem t_cloR : c111 = cloC 2 16 zR:=rfl
end Go.VI
