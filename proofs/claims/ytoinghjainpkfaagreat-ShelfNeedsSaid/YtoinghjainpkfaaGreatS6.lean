import Derived.Test.YtoinghjainpkfaaGreatS5
import Derived.KernelRfl
import Derived.Shelf.SlSortCmp.WholeK
import Derived.Ground.SlsfProg
import Derived.Test.YtoinghjainpkfaaGreatChecked
import Derived.ChangeArms
import Derived.ChangeReads
import GoSem.ClaimJoined
import Derived.Below
import Derived.OpenShut
/- What the claim hangs on, part 6: WJ WK WL WM WN WO WP WQ RSL VXQ RA RB RSM RFZ RGA RGZ WR WS WT WU RFZ7. -/
set_option linter.unusedVariables false
set_option linter.unusedSectionVars false
set_option linter.unusedSimpArgs false
set_option maxRecDepth 100000
namespace Go.VI
attribute [local congr] AW_congr OW_congr DW_congr NW_congr VW_congr GW_congr PW_congr KW_congr ite_congr' GV_congr CV_congr KF_congr
def chunksN (n : Nat) : Nat:=(n + 60) / 61
def pagesC (nf : Nat) (ids all : List Int) (k : Nat) : List (List Int):=(List.range k).map fun i => pageK nf ids i (chunkM all 61 i)
def encP (l : List (List Int)) : AV:=.lst (l.map fun p => [encB p])
theorem pagesC_len (nf : Nat) (ids all : List Int) (k : Nat) : (pagesC nf ids all k).length = k:=by simp [pagesC]
theorem pagesC_succ (nf : Nat) (ids all : List Int) (k : Nat) : pagesC nf ids all (k + 1) = pagesC nf ids all k ++ [pageK nf ids k (chunkM all 61 k)]:=by simp [pagesC,List.range_succ]
section
variable {free ids all : List Int} (hall : all.length ≤ 70000) (hn : ∀ x ∈ all,0 ≤ x ∧ x ≤ 4294967295) (hfree : free.length ≤ 1000000) (hids : ids.length ≤ 1000000) (hidn : ∀ x ∈ ids,0 ≤ x ∧ x ≤ 4294967295)
include hall hn hfree hids hidn
theorem range50 {K : Heap} (hnx : K.next = 8) (h0 : K.get 0 = some (.box false [int 1])) (h2 : K.get 2 = some (.box false [encN ids])) (h3 : K.get 3 = some (.box false [encN free])) (h5 : K.get 5 = some (.box false [.sc (.slice none 0 0)])) (h6 : K.get 6 = some (.box false [encN all])) (h7 : K.get 7 = some (.box false [int (61 : Nat)]))
  {f : Nat → AV} (f3 : f 3 = .ptr 0 0 0) (f5 : f 5 = .ptr 2 0 0) (f7 : f 7 = .ptr 3 0 0) (f9 : f 9 = .ptr 5 0 0) (f32 : f 32 = .fn (.func 116) [] [.ptr 6 0 0,.ptr 7 0 0]) {Q : AExit → Env → Heap → Prop}
  (hq : ∀ K' S,K'.get 5 = some (.box false [S]) → RepB 9 K' 1 S ((pagesC free.length ids all (chunksN all.length)).map fun p => [encB p]) → Q .normal (mkE 98 f) K') : AW ftG (.rangeF (.tmp 32) [33] c50A2 c50B2) (mkE 98 f) K Q:=by
 have hev : ev (mkE 98 f) (.tmp 32) = .fn (.func 116) [] [.ptr 6 0 0,.ptr 7 0 0]:=by rw [ev_tmp,if_pos (by decide),f32]
 refine AW_rangeF (by rw [hev]; rfl) ?_
 rw [hev]
 have hlp : (K.push (.loop .ready (mkE 98 f) [33] c50A2 c50B2 none)).get K.next = some (.loop .ready (mkE 98 f) [33] c50A2 c50B2 none):=by simp
 rw [hnx] at hlp ⊢
 let J : Nat → Heap → Prop:=fun k G => G.get 8 = some (.loop .ready (mkE 98 f) [33] c50A2 c50B2 none) ∧ (∀ j,j < 8 → j ≠ 5 → G.get j = K.get j) ∧ 9 ≤ G.next ∧ ∃ S,G.get 5 = some (.box false [S]) ∧ RepB 9 G 1 S ((pagesC free.length ids all k).map fun p => [encB p])
 have hJ0 : J 0 (K.push (.loop .ready (mkE 98 f) [33] c50A2 c50B2 none)):=⟨hlp,fun j hj _ => Heap.get_push_old _ _ _ (by omega),by simp; omega,.sc (.slice none 0 0),by rw [Heap.get_push_old _ _ _ (by omega)]; exact h5,.inl ⟨rfl,rfl⟩⟩
 obtain ⟨v,K',g1,i,⟨j1,j2,j3,S,j4,j5⟩,j6,j7⟩:=o116 (l:=all) (by omega) (n:=61) (by decide) (by decide) (id:=8) (bx:=6) (by':=7) (J:=J) (fun k G hG => ⟨(hG.2.1 6 (by decide) (by decide)).trans h6,(hG.2.1 7 (by decide) (by decide)).trans h7⟩) (fun i hi G hG => by
  obtain ⟨g1,g2,g3,S,g4,g5⟩:=hG
  refine yld_gen g1 rfl ?_
  have hs : setAll (mkE 98 f) [33] [encN (chunkM all 61 i)] = mkE 98 (upd f 33 (encN (chunkM all 61 i))):=putA_mkE 98 f 33 _
  rw [hs]
  unfold c50A2
  rw [← hx_nil G]
  simp only [↓vp,vz,Nat.reduceLT,Nat.reduceEqDiff,Nat.reduceLeDiff,Nat.reduceAdd,Nat.reduceSub,Nat.reduceMul,Int.reduceBEq,Int.reduceBNe,Int.reduceLT,Int.reduceLE,Int.reduceEq,reduceIte,reduceCtorEq,da,int,boolA,dr]
  rw [hx_nil]
  refine ⟨g1,?_⟩
  have e0 : c50A2 = (.region [⟨(some 10),(.mov (.tmp 33)),none⟩] false []):=rfl
  rw [← e0]
  have q1 : (G.set 8 (.loop .busy (mkE 98 f) [33] c50A2 c50B2 none)).get 8 = some (.loop .busy (mkE 98 f) [33] c50A2 c50B2 none):=Heap.get_set_self _ (by omega)
  have q2 : ∀ j,j < 8 → (G.set 8 (.loop .busy (mkE 98 f) [33] c50A2 c50B2 none)).get j = G.get j:=fun j hj => Heap.get_set_ne _ (by omega)
  have q3 : (G.set 8 (.loop .busy (mkE 98 f) [33] c50A2 c50B2 none)).next = G.next:=Heap.next_set _ _ _
  have q5 : RepB 9 (G.set 8 (.loop .busy (mkE 98 f) [33] c50A2 c50B2 none)) 1 S ((pagesC free.length ids all i).map fun p => [encB p]):=g5.mono fun id hid h => by rw [Heap.get_set_ne _ (by omega)]; exact h
  generalize G.set 8 (.loop .busy (mkE 98 f) [33] c50A2 c50B2 none) = G1 at *
  have hcl : (chunkM all 61 i).length ≤ 61:=by unfold chunkM; rw [List.length_take]; omega
  have hcn : ∀ x ∈ chunkM all 61 i,0 ≤ x ∧ x ≤ 4294967295:=fun x hx => hn x (List.mem_of_mem_drop (List.mem_of_mem_take hx))
  rw [← hx_nil G1]
  refine b50 (K:=G1) (b3:=0) (b5:=2) (b7:=3) (b9:=5) (B:=9) (k:=i) (free:=free) (ids:=ids) (c:=chunkM all 61 i) (S:=S) ((q2 0 (by decide)).trans ((g2 0 (by decide) (by decide)).trans h0)) ((q2 2 (by decide)).trans ((g2 2 (by decide) (by decide)).trans h2)) ((q2 3 (by decide)).trans ((g2 3 (by decide) (by decide)).trans h3)) ((q2 5 (by decide)).trans g4) q5 (by rw [List.length_map,pagesC_len]) (by omega) (by omega) (by decide) (by decide) (by decide) (by decide) (by decide) (by decide) (by decide) hcl hcn hfree hids hidn ?_ ?_ ?_ ?_ ?_ fun f' G2 S' t1 t2 t3 t4 => ?_
  ·simp only [↓vp,vz,Nat.reduceLT,Nat.reduceEqDiff,Nat.reduceLeDiff,Nat.reduceAdd,Nat.reduceSub,Nat.reduceMul,Int.reduceBEq,Int.reduceBNe,Int.reduceLT,Int.reduceLE,Int.reduceEq,reduceIte,reduceCtorEq,da,int,boolA,f3]
  ·simp only [↓vp,vz,Nat.reduceLT,Nat.reduceEqDiff,Nat.reduceLeDiff,Nat.reduceAdd,Nat.reduceSub,Nat.reduceMul,Int.reduceBEq,Int.reduceBNe,Int.reduceLT,Int.reduceLE,Int.reduceEq,reduceIte,reduceCtorEq,da,int,boolA,f5]
  ·simp only [↓vp,vz,Nat.reduceLT,Nat.reduceEqDiff,Nat.reduceLeDiff,Nat.reduceAdd,Nat.reduceSub,Nat.reduceMul,Int.reduceBEq,Int.reduceBNe,Int.reduceLT,Int.reduceLE,Int.reduceEq,reduceIte,reduceCtorEq,da,int,boolA,f7]
  ·simp only [↓vp,vz,Nat.reduceLT,Nat.reduceEqDiff,Nat.reduceLeDiff,Nat.reduceAdd,Nat.reduceSub,Nat.reduceMul,Int.reduceBEq,Int.reduceBNe,Int.reduceLT,Int.reduceLE,Int.reduceEq,reduceIte,reduceCtorEq,da,int,boolA,f9]
  ·simp only [↓vp,vz,Nat.reduceLT,Nat.reduceEqDiff,Nat.reduceLeDiff,Nat.reduceAdd,Nat.reduceSub,Nat.reduceMul,Int.reduceBEq,Int.reduceBNe,Int.reduceLT,Int.reduceLE,Int.reduceEq,reduceIte,reduceCtorEq,da,int,boolA]
  ·have l2 : 8 < G2.next:=by omega
   refine ⟨rfl,(t4 8 (by decide) (by decide)).trans q1,Heap.get_set_self _ l2,fun j hj hj5 => ?_,by rw [Heap.next_set]; omega,S',by rw [Heap.get_set_ne _ (by decide)]; exact t2,?_⟩
   ·rw [Heap.get_set_ne _ (by omega),t4 j (by omega) hj5,q2 j hj]
    exact g2 j hj hj5
   ·rw [pagesC_succ,List.map_append]
    exact t1.mono fun id hid h => by rw [Heap.get_set_ne _ (by omega)]; exact h) hJ0
 have hi : i = chunksN all.length:=by
  unfold chunksN
  rcases Nat.eq_zero_or_pos i with h | h
  ·subst h
   omega
  ·have:=j7 (i - 1) (by omega)
   omega
 subst hi
 refine ⟨v,K',g1,.normal,mkE 98 f,K'.set 8 .dead,?_,?_⟩
 ·unfold rangeE
  rw [j1]
 ·exact hq _ S (by rw [Heap.get_set_ne _ (by decide)]; exact j4) (j5.mono fun id hid h => by rw [Heap.get_set_ne _ (by omega)]; exact h)
end
def stPages (f h : List RunM) (ids : List Int) : List (List Int):=pagesC (pagesM f).length ids (pagesM f ++ pagesM h) (chunksN (pagesM f ++ pagesM h).length)
theorem pagesM_rg (l : List RunM) : ∀ x ∈ pagesM l,0 ≤ x ∧ x ≤ 4294967295:=fun x hx => by
 have:=in_pos (clean_may l) ((pgsL_mem (clean_may l)).1 hx)
 omega
theorem pagesM_16 (l : List RunM) : (pagesM l).length ≤ 32768:=by
 rw [pages_upto (clean_lt l)]
 exact upto_len_le _ 32768
theorem s50 (f h : List RunM) (ids : List Int) (hf : f.length ≤ 1000) (hh : h.length ≤ 1000) (hids : ids.length ≤ 1000000) (hidn : ∀ x ∈ ids,0 ≤ x ∧ x ≤ 4294967295) (H : Heap) :
  callL ftG (.fn (.func 50) [] []) [int 1,.agg [encR f,encR h],encN ids] H = some (encP (stPages f h ids),H):=by
 refine call_p (as':=[int 1,.agg [encR f,encR h],encN ids]) rfl rfl (by simp) ?_
 unfold c50 r50
 have kf:=fun H Q => @kG85 H Q f hf
 have kh:=fun H Q => @kG85 H Q h hh
 have vf : ∀ l : List RunM,pureV ftG (.fn (.func 85) [] []) [encR l] = some (false,[]):=fun _ => rfl
 have v69 : ∀ (i o n : Nat),pureV ftG (.fn (.func 69) [] []) [.sl i o n] = some (true,[i]):=fun _ _ _ => rfl
 have lf:=pagesM_16 f
 have lh:=pagesM_16 h
 have rf:=pagesM_rg f
 have rh:=pagesM_rg h
 unfold stPages
 generalize pagesM f = A at *
 generalize pagesM h = C at *
 have k69 : ∀ B0 B1 B2 B3 Q,KW ftG (.fn (.func 69) [] []) [.sl 4 0 2] (hx Heap.empty [B0,B1,B2,B3,.row false 1 [[encN A],[encN C]]]) Q ↔ Q (encN (A ++ C)) (hx Heap.empty [B0,B1,B2,B3,.row true 1 [[encN A],[encN C]]]):=fun B0 B1 B2 B3 Q => KW_of (concN (A:=A) (B:=C) rfl (by omega) (by omega))
 have k48':=fun K L Q => @KW_of ftG _ _ _ Q _ _ (s48 (.inl rfl) (hx K L))
 rw [show roomM 1 = 61 from rfl] at k48'
 have k86:=fun K Q => @o86 (A ++ C) 61 (by decide) K Q
 have oA : ∀ l : List Int,(encN l).one = true:=fun _ => rfl
 have xf : ∀ q,exFQ (none : FP).isSome q = q:=fun q => by cases q <;> rfl
 simp only [int] at k48' k86
 simp only [↓vp,vz,Nat.reduceLT,Nat.reduceEqDiff,Nat.reduceLeDiff,Nat.reduceAdd,Nat.reduceSub,Nat.reduceMul,Int.reduceBEq,Int.reduceBNe,Int.reduceLT,Int.reduceLE,Int.reduceEq,reduceIte,reduceCtorEq,da,int,boolA,dr,kf,kh,vf,v69,k69,k48',k86,xf,mkFQ_n]
 have hA : (A ++ C).length ≤ 70000:=by rw [List.length_append]; omega
 have hn : ∀ x ∈ A ++ C,0 ≤ x ∧ x ≤ 4294967295:=fun x hx => (List.mem_append.1 hx).elim (rf x) (rh x)
 refine range50 (free:=A) (ids:=ids) (all:=A ++ C) hA hn (by omega) hids hidn rfl rfl rfl rfl rfl rfl rfl ?_ ?_ ?_ ?_ ?_ fun K' S q1 q2 => ?_
 ·simp only [↓vp,vz,Nat.reduceLT,Nat.reduceEqDiff,Nat.reduceLeDiff,Nat.reduceAdd,Nat.reduceSub,Nat.reduceMul,Int.reduceBEq,Int.reduceBNe,Int.reduceLT,Int.reduceLE,Int.reduceEq,reduceIte,reduceCtorEq,da,int,boolA]
 ·simp only [↓vp,vz,Nat.reduceLT,Nat.reduceEqDiff,Nat.reduceLeDiff,Nat.reduceAdd,Nat.reduceSub,Nat.reduceMul,Int.reduceBEq,Int.reduceBNe,Int.reduceLT,Int.reduceLE,Int.reduceEq,reduceIte,reduceCtorEq,da,int,boolA]
 ·simp only [↓vp,vz,Nat.reduceLT,Nat.reduceEqDiff,Nat.reduceLeDiff,Nat.reduceAdd,Nat.reduceSub,Nat.reduceMul,Int.reduceBEq,Int.reduceBNe,Int.reduceLT,Int.reduceLE,Int.reduceEq,reduceIte,reduceCtorEq,da,int,boolA]
 ·simp only [↓vp,vz,Nat.reduceLT,Nat.reduceEqDiff,Nat.reduceLeDiff,Nat.reduceAdd,Nat.reduceSub,Nat.reduceMul,Int.reduceBEq,Int.reduceBNe,Int.reduceLT,Int.reduceLE,Int.reduceEq,reduceIte,reduceCtorEq,da,int,boolA]
 ·simp only [↓vp,vz,Nat.reduceLT,Nat.reduceEqDiff,Nat.reduceLeDiff,Nat.reduceAdd,Nat.reduceSub,Nat.reduceMul,Int.reduceBEq,Int.reduceBNe,Int.reduceLT,Int.reduceLE,Int.reduceEq,reduceIte,reduceCtorEq,da,int,boolA]
 ·have y9:=fun L => get_old q1 L
  obtain ⟨K2,hz⟩:=frz_rep (L:=[]) (by rw [hx_nil]; exact q2.rep) 23
  rw [← hx_nil K']
  unfold c50R3
  simp only [↓vp,vz,Nat.reduceLT,Nat.reduceEqDiff,Nat.reduceLeDiff,Nat.reduceAdd,Nat.reduceSub,Nat.reduceMul,Int.reduceBEq,Int.reduceBNe,Int.reduceLT,Int.reduceLE,Int.reduceEq,reduceIte,reduceCtorEq,da,int,boolA,dr,y9]
  refine ret1 rfl (by decide) ?_
  simp only [↓vp,vz,Nat.reduceLT,Nat.reduceEqDiff,Nat.reduceLeDiff,Nat.reduceAdd,Nat.reduceSub,Nat.reduceMul,Int.reduceBEq,Int.reduceBNe,Int.reduceLT,Int.reduceLE,Int.reduceEq,reduceIte,reduceCtorEq]
  exact ⟨K2,hz⟩
theorem p18 (f h : List RunM) (ids : List Int) (hf : f.length ≤ 1000) (hh : h.length ≤ 1000) (hids : ids.length ≤ 1000000) {args : List AV} {H H1 : Heap} (hz : frzCells H args = some ([int 1,.agg [encR f,encR h],encN ids],H1)) :
  callL ftG (.fn (.func 18) [] []) args H = some (if rightS f h && placesM ids (needM 1 f h) then .tup [encP (stPages f h ids),int 0] else .tup [encR [],int 1],H1):=by
 refine call_p (as':=[int 1,.agg [encR f,encR h],encN ids]) rfl (by simpa using hz) (by simp) ?_
 unfold c18 r18
 have kg:=fun K L Q => @k46 1 K L Q
 rw [show genB 1 = true by decide] at kg
 have k27':=fun K L Q => @k27 f h (by omega) (by omega) K L Q
 have k16:=fun K L Q => @KW_of ftG _ _ _ Q _ _ (s16 1 f h (by omega) (by omega) (fun e => absurd e (by decide)) (hx K L))
 have k49:=fun K L Q => @KW_of ftG _ _ _ Q _ _ (p49 ids (by omega) (needM 1 f h) (args:=[encN ids,int (needM 1 f h)]) (H:=hx K L) rfl)
 have k29':=fun K L Q => @k29 1 K L Q
 rw [show chainB 1 = true by decide] at k29'
 simp only [int,boolA] at kg k16 k29'
 cases e1 : rightS f h with
 | false =>
  rw [e1] at k27'
  simp only [boolA] at k27'
  simp only [↓vp,vz,Nat.reduceLT,Nat.reduceEqDiff,Nat.reduceLeDiff,Nat.reduceAdd,Nat.reduceSub,Nat.reduceMul,Int.reduceBEq,Int.reduceBNe,Int.reduceLT,Int.reduceLE,Int.reduceEq,reduceIte,reduceCtorEq,da,int,boolA,rt,dr,kg,k27',Bool.false_and]
  rfl
 | true =>
  rw [e1] at k27'
  cases e2 : placesM ids (needM 1 f h) with
  | false =>
   rw [e2] at k49
   simp only [int,boolA] at k27' k49
   simp only [↓vp,vz,Nat.reduceLT,Nat.reduceEqDiff,Nat.reduceLeDiff,Nat.reduceAdd,Nat.reduceSub,Nat.reduceMul,Int.reduceBEq,Int.reduceBNe,Int.reduceLT,Int.reduceLE,Int.reduceEq,reduceIte,reduceCtorEq,da,int,boolA,rt,dr,kg,k27',k16,k49,Bool.and_false]
   rfl
  | true =>
   have hidn : ∀ x ∈ ids,0 ≤ x ∧ x ≤ 4294967295:=fun x hx => by
    unfold placesM at e2
    rw [Bool.and_eq_true,List.all_eq_true] at e2
    obtain ⟨i,hi,rfl⟩:=List.getElem_of_mem hx
    have:=e2.1 i (List.mem_range.2 hi)
    unfold okAt at this
    rw [List.getD_eq_getElem?_getD,List.getElem?_eq_getElem hi] at this
    simp at this
    omega
   have k50:=fun K L Q => @KW_of ftG _ _ _ Q _ _ (s50 f h ids hf hh hids hidn (hx K L))
   rw [e2] at k49
   simp only [int,boolA] at k27' k49 k50
   simp only [↓vp,vz,Nat.reduceLT,Nat.reduceEqDiff,Nat.reduceLeDiff,Nat.reduceAdd,Nat.reduceSub,Nat.reduceMul,Int.reduceBEq,Int.reduceBNe,Int.reduceLT,Int.reduceLE,Int.reduceEq,reduceIte,reduceCtorEq,da,int,boolA,rt,dr,kg,k27',k16,k49,k29',k50,Bool.and_self,if_true]
   trace_state
   rfl
end Go.VI
namespace Go.VI
attribute [local congr] AW_congr OW_congr DW_congr NW_congr VW_congr GW_congr PW_congr KW_congr ite_congr' GV_congr CV_congr KF_congr
theorem bytes_rows (l : List Int) : bytesOfRows (l.map byteC) = some l:=by
 induction l with
 | nil => rfl
 | cons x r ih =>
  show (bytesOfRows (r.map byteC)).map (fun l => x :: l) = _
  rw [ih]
  rfl
theorem eql_s {t : TypeId} {a : ByteArray} : binA .eql t (.sc (.string a)) (.sc (.string a)) = some (.sc (.bool true)):=by
 show (pureRun (binOp .eql t (.string a) (.string a))).bind ofScalar = _
 have e : binOp .eql t (.string a) (.string a) = Op.stringOp .eql a a:=rfl
 rw [e]
 unfold Op.stringOp
 simp
 rfl
theorem p26 (l : List Int) {args : List AV} {H H1 : Heap} (hz : frzCells H args = some ([encB l,encB l],H1)) : callL ftG (.fn (.func 26) [] []) args H = some (boolA true,H1):=by
 refine call_p (as':=[encB l,encB l]) rfl (by simpa using hz) (by simp) ?_
 unfold c26 r26
 have rB : ∀ H,rowsOf H (encB l) = some (l.map byteC):=fun _ => rfl
 simp only [↓vp,vz,Nat.reduceLT,Nat.reduceEqDiff,Nat.reduceLeDiff,Nat.reduceAdd,Nat.reduceSub,Nat.reduceMul,Int.reduceBEq,Int.reduceBNe,Int.reduceLT,Int.reduceLE,Int.reduceEq,reduceIte,reduceCtorEq,da,int,boolA,rt,dr,rB,bytes_rows,eql_s]
theorem l35 (a b : List RunM) (hl : a.length ≤ 2000000) (hab : a.length = b.length) {Q : AExit → Env → Heap → Prop}
   (hex : ∀ f' K, a = b → Q (.exit 0) (mkE 26 f') (hx K []))
   (hret : ∀ f' K, a ≠ b → f' 4 = boolA false → Q .ret (mkE 26 f') (hx K [])) :
   ∀ (d i : Nat) (K : Heap) (f : Nat → AV), i + d = a.length → a.take i = b.take i → f 0 = encR a → f 1 = encR b → f 11 = encR a → f 12 = int a.length → f 13 = int i →
    AW ftG (.loop c35L0) (mkE 26 f) (hx K []) Q := by
  intro d
  induction d with
  | zero =>
    intro i K f hd hc h0 h1 h11 h12 h5
    have g1 : ((i : Int) < a.length) = False := by simp; omega
    rw [AW_loop]
    unfold c35L0
    rw [List.take_of_length_le (by omega), List.take_of_length_le (by omega)] at hc
    simp only [↓vp, vz, Nat.reduceLT, Nat.reduceEqDiff, Nat.reduceLeDiff, Nat.reduceAdd, Nat.reduceSub, Nat.reduceMul, Int.reduceBEq, Int.reduceBNe, Int.reduceLT, Int.reduceLE, Int.reduceEq, reduceIte, reduceCtorEq, da, int, boolA, dr, h0, h1, h11, h12, h5, g1]
    exact hex _ K hc
  | succ d ih =>
    intro i K f hd hc h0 h1 h11 h12 h5
    have g1 : ((i : Int) < a.length) = True := by simp; omega
    have gi : i < a.length := by omega
    have gj : i < b.length := by omega
    have w1 := wrap_succ (show i < 9223372036854775807 by omega)
    rw [AW_loop]
    unfold c35L0
    by_cases c1 : a[i] = b[i]
    · have hs : eqsA [0, 0] [.sc (.int .i64 a[i].1), .sc (.int .i64 a[i].2)] [.sc (.int .i64 b[i].1), .sc (.int .i64 b[i].2)] = some true := by
        rw [c1]
        simp [eqsA, scEq]
      simp only [↓vp, vz, Nat.reduceLT, Nat.reduceEqDiff, Nat.reduceLeDiff, Nat.reduceAdd, Nat.reduceSub, Nat.reduceMul, Int.reduceBEq, Int.reduceBNe, Int.reduceLT, Int.reduceLE, Int.reduceEq, reduceIte, reduceCtorEq, da, int, boolA, dr, h0, h1, h11, h12, h5, g1, atR gi, cR gi, atR gj, cR gj, runC, hs, w1]
      refine ih (i + 1) _ _ (by omega) ?_ ?_ ?_ ?_ ?_ ?_
      · rw [List.take_succ_eq_append_getElem gi, List.take_succ_eq_append_getElem gj, hc, c1]
      all_goals simp only [↓vp, vz, Nat.reduceLT, Nat.reduceEqDiff, Nat.reduceLeDiff, Nat.reduceAdd, Nat.reduceSub, Nat.reduceMul, Int.reduceBEq, Int.reduceBNe, Int.reduceLT, Int.reduceLE, Int.reduceEq, reduceIte, reduceCtorEq, da, int, boolA, h0, h1, h11, h12]
    · have hs : eqsA [0, 0] [.sc (.int .i64 a[i].1), .sc (.int .i64 a[i].2)] [.sc (.int .i64 b[i].1), .sc (.int .i64 b[i].2)] = some false := by
        by_cases e1 : a[i].1 = b[i].1
        · have e2 : a[i].2 ≠ b[i].2 := fun e => c1 (Prod.ext e1 e)
          simp [eqsA, scEq, e1, e2]
        · simp [eqsA, scEq, e1]
      simp only [↓vp, vz, Nat.reduceLT, Nat.reduceEqDiff, Nat.reduceLeDiff, Nat.reduceAdd, Nat.reduceSub, Nat.reduceMul, Int.reduceBEq, Int.reduceBNe, Int.reduceLT, Int.reduceLE, Int.reduceEq, reduceIte, reduceCtorEq, da, int, boolA, dr, h0, h1, h11, h12, h5, g1, atR gi, cR gi, atR gj, cR gj, runC, hs]
      refine hret _ _ (fun e => c1 (by subst e; rfl)) ?_
      simp only [↓vp, vz, Nat.reduceLT, Nat.reduceEqDiff, Nat.reduceLeDiff, Nat.reduceAdd, Nat.reduceSub, Nat.reduceMul, Int.reduceBEq, Int.reduceBNe, Int.reduceLT, Int.reduceLE, Int.reduceEq, reduceIte, reduceCtorEq, da, int, boolA]
theorem s35 (a b : List RunM) (hl : a.length ≤ 2000000) (H : Heap) : callL ftG (.fn (.func 35) [] []) [encR a,encR b] H = some (boolA (sameM a b),H):=by
 refine call_p (as':=[encR a,encR b]) rfl rfl (by simp) ?_
 unfold c35 r35 sameM
 by_cases c1 : a.length = b.length
 ·have d1 : ((a.length : Int) != b.length) = false:=by simp [c1]
  simp only [↓vp,vz,Nat.reduceLT,Nat.reduceEqDiff,Nat.reduceLeDiff,Nat.reduceAdd,Nat.reduceSub,Nat.reduceMul,Int.reduceBEq,Int.reduceBNe,Int.reduceLT,Int.reduceLE,Int.reduceEq,reduceIte,reduceCtorEq,da,int,boolA,dr,d1]
  rw [← hx_nil (Heap.empty)]
  refine l35 a b hl c1 (fun f' K hm => ?_) (fun f' K hm q4 => ?_) a.length 0 _ _ (by simp) rfl ?_ ?_ ?_ ?_ ?_
  ·unfold c35R1
   rw [decide_eq_true hm]
   simp only [↓vp,vz,Nat.reduceLT,Nat.reduceEqDiff,Nat.reduceLeDiff,Nat.reduceAdd,Nat.reduceSub,Nat.reduceMul,Int.reduceBEq,Int.reduceBNe,Int.reduceLT,Int.reduceLE,Int.reduceEq,reduceIte,reduceCtorEq,da,int,boolA,rt]
  ·rw [decide_eq_false hm]
   simp only [↓vp,vz,Nat.reduceLT,Nat.reduceEqDiff,Nat.reduceLeDiff,Nat.reduceAdd,Nat.reduceSub,Nat.reduceMul,Int.reduceBEq,Int.reduceBNe,Int.reduceLT,Int.reduceLE,Int.reduceEq,reduceIte,reduceCtorEq,da,int,boolA,rt,q4]
  all_goals first | rfl | (simp only [↓vp,vz,Nat.reduceLT,Nat.reduceEqDiff,Nat.reduceLeDiff,Nat.reduceAdd,Nat.reduceSub,Nat.reduceMul,Int.reduceBEq,Int.reduceBNe,Int.reduceLT,Int.reduceLE,Int.reduceEq,reduceIte,reduceCtorEq,da,int,boolA]; done)
 ·have d1 : ((a.length : Int) != b.length) = true:=by simp; omega
  rw [decide_eq_false (fun e => c1 (by rw [e]))]
  simp only [↓vp,vz,Nat.reduceLT,Nat.reduceEqDiff,Nat.reduceLeDiff,Nat.reduceAdd,Nat.reduceSub,Nat.reduceMul,Int.reduceBEq,Int.reduceBNe,Int.reduceLT,Int.reduceLE,Int.reduceEq,reduceIte,reduceCtorEq,da,int,boolA,rt,dr,d1]
theorem get2n {K : Heap} {x y z : Blk} {n : Nat} (h : n = K.next + 2) : (hx K [x,y,z]).get n = some z:=by rw [h]; exact hx_get _ _ 2
theorem l17a (l : List RunM) (hl : l.length ≤ 2000000) (O : AV) (B : Nat) (K0 : Heap) (hB : 3 ≤ B) {Q : AExit → Env → Heap → Prop}
   (hex : ∀ f' K S, RepB B K 2 S (l.map runC) → B ≤ K.next → K.get 2 = some (.box false [S, O]) → (∀ j, j < B → j ≠ 2 → K.get j = K0.get j) → f' 1 = .ptr 0 0 0 → f' 2 = .ptr 1 0 0 → f' 3 = .ptr 2 0 0 → Q (.exit 0) (mkE 37 f') (hx K [])) :
   ∀ (d i : Nat) (S : AV) (K : Heap) (f : Nat → AV), i + d = l.length → RepB B K 2 S ((l.take i).map runC) → B ≤ K.next → K.get 2 = some (.box false [S, O]) → (∀ j, j < B → j ≠ 2 → K.get j = K0.get j) → f 1 = .ptr 0 0 0 → f 2 = .ptr 1 0 0 → f 3 = .ptr 2 0 0 → f 9 = encR l → f 10 = int l.length → f 11 = int i →
    AW ftG (.loop c17L0) (mkE 37 f) (hx K []) Q := by
  intro d
  induction d with
  | zero =>
    intro i S K f hd hr hn h2 hk e1 e2 e3 ea eb ed
    have g : ((i : Int) < l.length) = False := by simp; omega
    rw [AW_loop]
    unfold c17L0
    rw [List.take_of_length_le (by omega)] at hr
    simp only [↓vp, vz, Nat.reduceLT, Nat.reduceEqDiff, Nat.reduceLeDiff, Nat.reduceAdd, Nat.reduceSub, Nat.reduceMul, Int.reduceBEq, Int.reduceBNe, Int.reduceLT, Int.reduceLE, Int.reduceEq, reduceIte, reduceCtorEq, da, int, boolA, eb, ed, g]
    refine hex _ K S hr hn h2 hk ?_ ?_ ?_
    all_goals simp only [↓vp, vz, Nat.reduceLT, Nat.reduceEqDiff, Nat.reduceLeDiff, Nat.reduceAdd, Nat.reduceSub, Nat.reduceMul, Int.reduceBEq, Int.reduceBNe, Int.reduceLT, Int.reduceLE, Int.reduceEq, reduceIte, reduceCtorEq, da, int, boolA, e1, e2, e3]
  | succ d ih =>
    intro i S K f hd hr hn h2 hk e1 e2 e3 ea eb ed
    have g1 : ((i : Int) < l.length) = True := by simp; omega
    have gi : i < l.length := by omega
    have w1 := wrap_succ (show i < 9223372036854775807 by omega)
    have ht := rep_take runC gi
    have hlen : ((l.take i).map runC).length = i := by simp; omega
    have ap := fun nid L => appA_rep (nid := nid) (bytes := 16) hr.rep (xs := [runC l[i]]) (by simp) rfl (by rw [hlen]; simp; omega) L
    have c0 := fun H => @atR H l i gi
    have c1 := fun H off n => @cR H l i off n gi
    rw [hlen] at ap
    simp only [runC, int, List.length_singleton] at ap c1
    have hs := hr.kill
    have k2 : (kill K S).get 2 = some (.box false [S, O]) := by rw [hs.2 2 (by omega), h2]
    have l2 := Heap.get_lt k2
    have q2 := fun L => get_old k2 L
    have q2' := fun L => get_old h2 L
    have gs : ∀ L b, (hx (kill K S) L).set 2 b = hx ((kill K S).set 2 b) L := fun L b => hx_set_old _ L b 2 l2
    rw [AW_loop]
    unfold c17L0
    simp only [↓vp, vz, Nat.reduceLT, Nat.reduceEqDiff, Nat.reduceLeDiff, Nat.reduceAdd, Nat.reduceSub, Nat.reduceMul, Int.reduceBEq, Int.reduceBNe, Int.reduceLT, Int.reduceLE, Int.reduceEq, reduceIte, reduceCtorEq, da, int, boolA, dr, e1, e2, e3, ea, eb, ed, g1, c0, c1, runC, ap, kill_next, w1, q2, q2', gs]
    rw [← hx_nil (hx _ _)]
    refine ih (i + 1) (.sl (K.next + 2) 0 (i + 1)) _ _ (by omega) (.inr ⟨K.next + 2, by omega, ?_, ?_⟩) ?_ ?_ (fun j hj hj2 => ?_) ?_ ?_ ?_ ?_ ?_ ?_
    · rw [ht, List.length_append, hlen]
      rfl
    · rw [ht]
      exact get2n (by rw [Heap.next_set, kill_next])
    · rw [hx_next, Heap.next_set, kill_next]; omega
    · exact get_old (Heap.get_set_self _ l2) _
    · rw [hx_get_old _ _ _ (by rw [Heap.next_set, kill_next]; omega), Heap.get_set_ne _ hj2, hs.2 j hj, hk j hj hj2]
    all_goals simp only [↓vp, vz, Nat.reduceLT, Nat.reduceEqDiff, Nat.reduceLeDiff, Nat.reduceAdd, Nat.reduceSub, Nat.reduceMul, Int.reduceBEq, Int.reduceBNe, Int.reduceLT, Int.reduceLE, Int.reduceEq, reduceIte, reduceCtorEq, da, int, boolA, e1, e2, e3, ea, eb]
theorem l17b (l : List RunM) (hl : l.length ≤ 2000000) (O : AV) (B : Nat) (K0 : Heap) (hB : 3 ≤ B) {Q : AExit → Env → Heap → Prop}
   (hex : ∀ f' K S, RepB B K 2 S (l.map runC) → B ≤ K.next → K.get 2 = some (.box false [O, S]) → (∀ j, j < B → j ≠ 2 → K.get j = K0.get j) → f' 1 = .ptr 0 0 0 → f' 2 = .ptr 1 0 0 → f' 3 = .ptr 2 0 0 → Q (.exit 2) (mkE 37 f') (hx K [])) :
   ∀ (d i : Nat) (S : AV) (K : Heap) (f : Nat → AV), i + d = l.length → RepB B K 2 S ((l.take i).map runC) → B ≤ K.next → K.get 2 = some (.box false [O, S]) → (∀ j, j < B → j ≠ 2 → K.get j = K0.get j) → f 1 = .ptr 0 0 0 → f 2 = .ptr 1 0 0 → f 3 = .ptr 2 0 0 → f 23 = encR l → f 24 = int l.length → f 25 = int i →
    AW ftG (.loop c17L1) (mkE 37 f) (hx K []) Q := by
  intro d
  induction d with
  | zero =>
    intro i S K f hd hr hn h2 hk e1 e2 e3 ea eb ed
    have g : ((i : Int) < l.length) = False := by simp; omega
    rw [AW_loop]
    unfold c17L1
    rw [List.take_of_length_le (by omega)] at hr
    simp only [↓vp, vz, Nat.reduceLT, Nat.reduceEqDiff, Nat.reduceLeDiff, Nat.reduceAdd, Nat.reduceSub, Nat.reduceMul, Int.reduceBEq, Int.reduceBNe, Int.reduceLT, Int.reduceLE, Int.reduceEq, reduceIte, reduceCtorEq, da, int, boolA, eb, ed, g]
    refine hex _ K S hr hn h2 hk ?_ ?_ ?_
    all_goals simp only [↓vp, vz, Nat.reduceLT, Nat.reduceEqDiff, Nat.reduceLeDiff, Nat.reduceAdd, Nat.reduceSub, Nat.reduceMul, Int.reduceBEq, Int.reduceBNe, Int.reduceLT, Int.reduceLE, Int.reduceEq, reduceIte, reduceCtorEq, da, int, boolA, e1, e2, e3]
  | succ d ih =>
    intro i S K f hd hr hn h2 hk e1 e2 e3 ea eb ed
    have g1 : ((i : Int) < l.length) = True := by simp; omega
    have gi : i < l.length := by omega
    have w1 := wrap_succ (show i < 9223372036854775807 by omega)
    have ht := rep_take runC gi
    have hlen : ((l.take i).map runC).length = i := by simp; omega
    have ap := fun nid L => appA_rep (nid := nid) (bytes := 16) hr.rep (xs := [runC l[i]]) (by simp) rfl (by rw [hlen]; simp; omega) L
    have c0 := fun H => @atR H l i gi
    have c1 := fun H off n => @cR H l i off n gi
    rw [hlen] at ap
    simp only [runC, int, List.length_singleton] at ap c1
    have hs := hr.kill
    have k2 : (kill K S).get 2 = some (.box false [O, S]) := by rw [hs.2 2 (by omega), h2]
    have l2 := Heap.get_lt k2
    have q2 := fun L => get_old k2 L
    have q2' := fun L => get_old h2 L
    have gs : ∀ L b, (hx (kill K S) L).set 2 b = hx ((kill K S).set 2 b) L := fun L b => hx_set_old _ L b 2 l2
    rw [AW_loop]
    unfold c17L1
    simp only [↓vp, vz, Nat.reduceLT, Nat.reduceEqDiff, Nat.reduceLeDiff, Nat.reduceAdd, Nat.reduceSub, Nat.reduceMul, Int.reduceBEq, Int.reduceBNe, Int.reduceLT, Int.reduceLE, Int.reduceEq, reduceIte, reduceCtorEq, da, int, boolA, dr, e1, e2, e3, ea, eb, ed, g1, c0, c1, runC, ap, kill_next, w1, q2, q2', gs]
    rw [← hx_nil (hx _ _)]
    refine ih (i + 1) (.sl (K.next + 2) 0 (i + 1)) _ _ (by omega) (.inr ⟨K.next + 2, by omega, ?_, ?_⟩) ?_ ?_ (fun j hj hj2 => ?_) ?_ ?_ ?_ ?_ ?_ ?_
    · rw [ht, List.length_append, hlen]
      rfl
    · rw [ht]
      exact get2n (by rw [Heap.next_set, kill_next])
    · rw [hx_next, Heap.next_set, kill_next]; omega
    · exact get_old (Heap.get_set_self _ l2) _
    · rw [hx_get_old _ _ _ (by rw [Heap.next_set, kill_next]; omega), Heap.get_set_ne _ hj2, hs.2 j hj, hk j hj hj2]
    all_goals simp only [↓vp, vz, Nat.reduceLT, Nat.reduceEqDiff, Nat.reduceLeDiff, Nat.reduceAdd, Nat.reduceSub, Nat.reduceMul, Int.reduceBEq, Int.reduceBNe, Int.reduceLT, Int.reduceLE, Int.reduceEq, reduceIte, reduceCtorEq, da, int, boolA, e1, e2, e3, ea, eb]
theorem frz_pair {H : Heap} {S1 S2 : AV} {r1 r2 : List (List AV)} (h1 : Rep H 2 S1 r1) (h2 : Rep H 2 S2 r2) (hne : ∀ i j a b,S1 = .sl i 0 a → S2 = .sl j 0 b → i ≠ j) (n : Nat) : ∃ H',frz (n + 4) H (.agg [S1,S2]) = some (.agg [.lst r1,.lst r2],H'):=by
 rw [frz_agg,frzL_cons]
 have last : ∀ G G' : Heap,frz (n + 1) G S2 = some (.lst r2,G') → frz.frzL (n + 2) G [S2] = some ([.lst r2],G'):=fun G G' h => by
  rw [frzL_cons,h]
  rfl
 rcases h1 with ⟨rfl,rfl⟩ | ⟨i,rfl,h1⟩
 ·obtain ⟨H',h⟩:=frz_rep (K:=H) (L:=[]) (by rw [hx_nil]; exact h2) n
  rw [hx_nil] at h
  rw [frz_nils,Option.bind_some,last _ _ h]
  exact ⟨_,rfl⟩
 ·have h2' : Rep (H.set i (.row true 2 r1)) 2 S2 r2:=by
   rcases h2 with h | ⟨j,e,h2⟩
   ·exact .inl h
   ·refine .inr ⟨j,e,?_⟩
    rw [Heap.get_set_ne _ (fun q => hne i j _ _ rfl e q.symm)]
    exact h2
  obtain ⟨H',h⟩:=frz_rep (K:=H.set i (.row true 2 r1)) (L:=[]) (by rw [hx_nil]; exact h2') n
  rw [hx_nil] at h
  have e1 : frz (n + 2) H (.sl i 0 r1.length) = some (.lst r1,H.set i (.row true 2 r1)):=by
   rw [frz_sl,h1]
   simp
  rw [e1,Option.bind_some,last _ _ h]
  exact ⟨_,rfl⟩
theorem s17 (f h : List RunM) (hf : f.length ≤ 2000000) (hh : h.length ≤ 2000000) (H : Heap) : callL ftG (.fn (.func 17) [] []) [.agg [encR f,encR h]] H = some (.agg [encR f,encR h],H):=by
 refine call_p (as':=[.agg [encR f,encR h]]) rfl rfl (by simp) ?_
 unfold c17 r17
 simp only [↓vp,vz,Nat.reduceLT,Nat.reduceEqDiff,Nat.reduceLeDiff,Nat.reduceAdd,Nat.reduceSub,Nat.reduceMul,Int.reduceBEq,Int.reduceBNe,Int.reduceLT,Int.reduceLE,Int.reduceEq,reduceIte,reduceCtorEq,da,int,boolA,dr]
 rw [← hx_nil (hx Heap.empty _)]
 refine l17a f hf (.sc (.slice none 0 0)) 3 _ (by omega) (fun f1 K1 S1 hr1 hn1 h21 hk1 a1 a2 a3 => ?_) f.length 0 (.sc (.slice none 0 0)) _ _ (by simp) (.inl ⟨rfl,by simp⟩) ?_ rfl (fun _ _ _ => rfl) ?_ ?_ ?_ ?_ ?_ ?_
 rotate_left
 ·simp [hx_next]
 iterate 6 first | rfl | (simp only [↓vp,vz,Nat.reduceLT,Nat.reduceEqDiff,Nat.reduceLeDiff,Nat.reduceAdd,Nat.reduceSub,Nat.reduceMul,Int.reduceBEq,Int.reduceBNe,Int.reduceLT,Int.reduceLE,Int.reduceEq,reduceIte,reduceCtorEq,da,int,boolA]; done)
 have g0 : ∀ L,(hx K1 L).get 0 = some (.box false [encR f,encR h]):=fun L => get_old (by rw [hk1 0 (by omega) (by omega)]; rfl) L
 unfold c17R3
 simp only [↓vp,vz,Nat.reduceLT,Nat.reduceEqDiff,Nat.reduceLeDiff,Nat.reduceAdd,Nat.reduceSub,Nat.reduceMul,Int.reduceBEq,Int.reduceBNe,Int.reduceLT,Int.reduceLE,Int.reduceEq,reduceIte,reduceCtorEq,da,int,boolA,dr,a1,a2,a3,g0]
 refine l17b h hh S1 K1.next K1 hn1 (fun f2 K2 S2 hr2 hn2 h22 hk2 b1 b2 b3 => ?_) h.length 0 (.sc (.slice none 0 0)) _ _ (by simp) (.inl ⟨rfl,by simp⟩) (Nat.le_refl _) h21 (fun _ _ _ => rfl) ?_ ?_ ?_ ?_ ?_ ?_
 rotate_left
 ·simp only [↓vp,vz,Nat.reduceLT,Nat.reduceEqDiff,Nat.reduceLeDiff,Nat.reduceAdd,Nat.reduceSub,Nat.reduceMul,Int.reduceBEq,Int.reduceBNe,Int.reduceLT,Int.reduceLE,Int.reduceEq,reduceIte,reduceCtorEq,da,int,boolA,a1,a2,a3]
 ·simp only [↓vp,vz,Nat.reduceLT,Nat.reduceEqDiff,Nat.reduceLeDiff,Nat.reduceAdd,Nat.reduceSub,Nat.reduceMul,Int.reduceBEq,Int.reduceBNe,Int.reduceLT,Int.reduceLE,Int.reduceEq,reduceIte,reduceCtorEq,da,int,boolA,a1,a2,a3]
 ·simp only [↓vp,vz,Nat.reduceLT,Nat.reduceEqDiff,Nat.reduceLeDiff,Nat.reduceAdd,Nat.reduceSub,Nat.reduceMul,Int.reduceBEq,Int.reduceBNe,Int.reduceLT,Int.reduceLE,Int.reduceEq,reduceIte,reduceCtorEq,da,int,boolA,a1,a2,a3]
 ·simp only [↓vp,vz,Nat.reduceLT,Nat.reduceEqDiff,Nat.reduceLeDiff,Nat.reduceAdd,Nat.reduceSub,Nat.reduceMul,Int.reduceBEq,Int.reduceBNe,Int.reduceLT,Int.reduceLE,Int.reduceEq,reduceIte,reduceCtorEq,da,int,boolA,a1,a2,a3]
 ·simp only [↓vp,vz,Nat.reduceLT,Nat.reduceEqDiff,Nat.reduceLeDiff,Nat.reduceAdd,Nat.reduceSub,Nat.reduceMul,Int.reduceBEq,Int.reduceBNe,Int.reduceLT,Int.reduceLE,Int.reduceEq,reduceIte,reduceCtorEq,da,int,boolA,a1,a2,a3]
 ·simp only [↓vp,vz,Nat.reduceLT,Nat.reduceEqDiff,Nat.reduceLeDiff,Nat.reduceAdd,Nat.reduceSub,Nat.reduceMul,Int.reduceBEq,Int.reduceBNe,Int.reduceLT,Int.reduceLE,Int.reduceEq,reduceIte,reduceCtorEq,da,int,boolA,a1,a2,a3]
  rfl
 have y1 : K2.get 1 = some (.box false [.sc (.slice none 0 0),.sc (.slice none 0 0)]):=by
  rw [hk2 1 (by omega) (by omega),hk1 1 (by omega) (by omega)]
  rfl
 have y2:=fun L => get_old h22 L
 have l1:=Heap.get_lt y1
 have y3:=fun L => get_old y1 L
 have gs : ∀ L b,(hx K2 L).set 1 b = hx (K2.set 1 b) L:=fun L b => hx_set_old _ L b 1 l1
 have y4 : ∀ b L,(hx (K2.set 1 b) L).get 1 = some b:=fun b L => get_old (Heap.get_set_self _ l1) L
 have z1 : Rep (hx (K2.set 1 (.box false [S1,S2])) []) 2 S1 (f.map runC):=by
  rcases hr1 with h | ⟨id,q1,q2,q3⟩
  ·exact .inl h
  ·have:=Heap.get_lt q3
   refine .inr ⟨id,q2,?_⟩
   rw [hx_nil,Heap.get_set_ne _ (by omega),hk2 id this (by omega)]
   exact q3
 have z2 : Rep (hx (K2.set 1 (.box false [S1,S2])) []) 2 S2 (h.map runC):=by
  rcases hr2 with h | ⟨id,q1,q2,q3⟩
  ·exact .inl h
  ·refine .inr ⟨id,q2,?_⟩
   rw [hx_nil,Heap.get_set_ne _ (by omega)]
   exact q3
 obtain ⟨H',hz⟩:=frz_pair z1 z2 (fun i j a b e1 e2 => by
  rcases hr1 with ⟨q,_⟩ | ⟨id,q1,q2,q3⟩
  ·rw [q] at e1; cases e1
  ·rw [q2] at e1
   cases e1
   have:=Heap.get_lt q3
   rcases hr2 with ⟨q,_⟩ | ⟨id',p1,p2,p3⟩
   ·rw [q] at e2; cases e2
   ·rw [p2] at e2
    cases e2
    omega) 20
 have o1 : S1.one = true:=by rcases z1 with ⟨h,_⟩ | ⟨_,h,_⟩ <;> rw [h] <;> rfl
 have o2 : S2.one = true:=by rcases z2 with ⟨h,_⟩ | ⟨_,h,_⟩ <;> rw [h] <;> rfl
 unfold c17R2
 simp only [↓vp,vz,Nat.reduceLT,Nat.reduceEqDiff,Nat.reduceLeDiff,Nat.reduceAdd,Nat.reduceSub,Nat.reduceMul,Int.reduceBEq,Int.reduceBNe,Int.reduceLT,Int.reduceLE,Int.reduceEq,reduceIte,reduceCtorEq,da,int,boolA,dr,b1,b2,b3,y2,y3,gs,y4,o1,o2]
 refine RetP_go.2 ⟨rfl,?_⟩
 rw [resC,resN,if_pos (by decide)]
 simp only [↓vp,vz,Nat.reduceLT,Nat.reduceEqDiff,Nat.reduceLeDiff,Nat.reduceAdd,Nat.reduceSub,Nat.reduceMul,Int.reduceBEq,Int.reduceBNe,Int.reduceLT,Int.reduceLE,Int.reduceEq,reduceIte,reduceCtorEq,da,int,boolA,b2,y4]
 simp only [retV1]
 rw [show FZ = 24 from rfl,hz]
 rfl
theorem s11 (a b c d : List RunM) (ha : a.length ≤ 2000000) (hb : b.length ≤ 2000000) (H : Heap) : callL ftG (.fn (.func 11) [] []) [.agg [encR a,encR b],.agg [encR c,encR d]] H = some (boolA (sameM a c && sameM b d),H):=by
 refine call_p (as':=[.agg [encR a,encR b],.agg [encR c,encR d]]) rfl rfl (by simp) ?_
 unfold c11 r11
 have k1:=fun K L Q => @KW_of ftG _ _ _ Q _ _ (s35 a c ha (hx K L))
 have k2:=fun K L Q => @KW_of ftG _ _ _ Q _ _ (s35 b d hb (hx K L))
 simp only [boolA] at k1 k2
 cases e1 : sameM a c with
 | true =>
  rw [e1] at k1
  cases e2 : sameM b d with
  | true =>
   rw [e2] at k2
   simp only [↓vp,vz,Nat.reduceLT,Nat.reduceEqDiff,Nat.reduceLeDiff,Nat.reduceAdd,Nat.reduceSub,Nat.reduceMul,Int.reduceBEq,Int.reduceBNe,Int.reduceLT,Int.reduceLE,Int.reduceEq,reduceIte,reduceCtorEq,da,int,boolA,rt,dr,k1,k2,Bool.true_and]
  | false =>
   rw [e2] at k2
   simp only [↓vp,vz,Nat.reduceLT,Nat.reduceEqDiff,Nat.reduceLeDiff,Nat.reduceAdd,Nat.reduceSub,Nat.reduceMul,Int.reduceBEq,Int.reduceBNe,Int.reduceLT,Int.reduceLE,Int.reduceEq,reduceIte,reduceCtorEq,da,int,boolA,rt,dr,k1,k2,Bool.true_and]
 | false =>
  rw [e1] at k1
  simp only [↓vp,vz,Nat.reduceLT,Nat.reduceEqDiff,Nat.reduceLeDiff,Nat.reduceAdd,Nat.reduceSub,Nat.reduceMul,Int.reduceBEq,Int.reduceBNe,Int.reduceLT,Int.reduceLE,Int.reduceEq,reduceIte,reduceCtorEq,da,int,boolA,rt,dr,k1,Bool.false_and]
end Go.VI
namespace Go.VI
attribute [local congr] AW_congr OW_congr DW_congr NW_congr VW_congr GW_congr PW_congr KW_congr ite_congr' GV_congr CV_congr KF_congr
def sumD : List RunM → Int
 | [] => 0
 | x :: r => (if mayM x = true then x.2 else 0) + sumD r
theorem sumD_cons (x : RunM) (r : List RunM) : sumD (x :: r) = (if mayM x = true then x.2 else 0) + sumD r:=rfl
theorem sumD_bd : ∀ l : List RunM,0 ≤ sumD l ∧ sumD l ≤ 32768 * l.length
 | [] => by simp [sumD]
 | x :: r => by
  have:=sumD_bd r
  unfold sumD
  split
  ·rename_i h
   have:=mayM_iff.1 h
   simp only [List.length_cons]
   omega
  ·simp only [List.length_cons]
   omega
theorem l15 (l : List RunM) (hl : l.length ≤ 100000000000000) (B0 B1 : Blk) (x1 x12 x13 x14 : AV) {Q : AExit → Env → Heap → Prop} (n0 : Int) (hn0 : 0 ≤ n0) (hn1 : n0 ≤ 32768 * 100000000000000)
   (hex : ∀ f' K, K.get 0 = some B0 → K.get 1 = some B1 → f' 1 = x1 → f' 12 = x12 → f' 13 = x13 → f' 14 = x14 → f' 3 = int (n0 + sumD l) → Q (.exit 2) (mkE 44 f') (hx K [])) :
   ∀ (d i : Nat) (n : Int) (K : Heap) (f : Nat → AV), i + d = l.length → n + sumD (l.drop i) = n0 + sumD l → 0 ≤ n → n ≤ n0 + 32768 * i → K.get 0 = some B0 → K.get 1 = some B1 → f 1 = x1 → f 12 = x12 → f 13 = x13 → f 14 = x14 → f 3 = int n → f 18 = encR l → f 19 = int l.length → f 20 = int i →
    AW ftG (.loop c15L0) (mkE 44 f) (hx K []) Q := by
  intro d
  induction d with
  | zero =>
    intro i n K f hd hs h1 h2 z0 z1 f1 f12 f13 f14 f3 f18 f19 f20
    have g : ((i : Int) < l.length) = False := by simp; omega
    rw [List.drop_eq_nil_of_le (by omega)] at hs
    rw [AW_loop]
    unfold c15L0
    simp only [↓vp, vz, Nat.reduceLT, Nat.reduceEqDiff, Nat.reduceLeDiff, Nat.reduceAdd, Nat.reduceSub, Nat.reduceMul, Int.reduceBEq, Int.reduceBNe, Int.reduceLT, Int.reduceLE, Int.reduceEq, reduceIte, reduceCtorEq, da, int, boolA, dr, f19, f20, g]
    refine hex _ K z0 z1 ?_ ?_ ?_ ?_ ?_
    · simp only [↓vp, vz, Nat.reduceLT, Nat.reduceEqDiff, Nat.reduceLeDiff, Nat.reduceAdd, Nat.reduceSub, Nat.reduceMul, Int.reduceBEq, Int.reduceBNe, Int.reduceLT, Int.reduceLE, Int.reduceEq, reduceIte, reduceCtorEq, da, int, boolA, f1]
    · simp only [↓vp, vz, Nat.reduceLT, Nat.reduceEqDiff, Nat.reduceLeDiff, Nat.reduceAdd, Nat.reduceSub, Nat.reduceMul, Int.reduceBEq, Int.reduceBNe, Int.reduceLT, Int.reduceLE, Int.reduceEq, reduceIte, reduceCtorEq, da, int, boolA, f12]
    · simp only [↓vp, vz, Nat.reduceLT, Nat.reduceEqDiff, Nat.reduceLeDiff, Nat.reduceAdd, Nat.reduceSub, Nat.reduceMul, Int.reduceBEq, Int.reduceBNe, Int.reduceLT, Int.reduceLE, Int.reduceEq, reduceIte, reduceCtorEq, da, int, boolA, f13]
    · simp only [↓vp, vz, Nat.reduceLT, Nat.reduceEqDiff, Nat.reduceLeDiff, Nat.reduceAdd, Nat.reduceSub, Nat.reduceMul, Int.reduceBEq, Int.reduceBNe, Int.reduceLT, Int.reduceLE, Int.reduceEq, reduceIte, reduceCtorEq, da, int, boolA, f14]
    · rw [← hs]
      simp only [↓vp, vz, Nat.reduceLT, Nat.reduceEqDiff, Nat.reduceLeDiff, Nat.reduceAdd, Nat.reduceSub, Nat.reduceMul, Int.reduceBEq, Int.reduceBNe, Int.reduceLT, Int.reduceLE, Int.reduceEq, reduceIte, reduceCtorEq, da, int, boolA, f3, sumD, Int.add_zero]
  | succ d ih =>
    intro i n K f hd hs h1 h2 z0 z1 f1 f12 f13 f14 f3 f18 f19 f20
    have g1 : ((i : Int) < l.length) = True := by simp; omega
    have gi : i < l.length := by omega
    have w1 := wrap_succ (show i < 9223372036854775807 by omega)
    have c0 := fun H => @atR H l i gi
    have c1 := fun H off n => @cR H l i off n gi
    rw [List.drop_eq_getElem_cons gi] at hs
    generalize l[i] = x at *
    have km := fun H Q => @kG44 H Q x
    simp only [runC, int] at c1 km
    rw [sumD_cons] at hs
    rw [AW_loop]
    unfold c15L0
    cases c : mayM x with
    | true =>
      rw [c, if_pos rfl] at hs
      rw [c] at km
      simp only [boolA] at km
      have mx := mayM_iff.1 c
      have w2 : IntKind.i64.wrap (n + x.2) = n + x.2 := wrap_i64 (by omega)
      simp only [↓vp, vz, Nat.reduceLT, Nat.reduceEqDiff, Nat.reduceLeDiff, Nat.reduceAdd, Nat.reduceSub, Nat.reduceMul, Int.reduceBEq, Int.reduceBNe, Int.reduceLT, Int.reduceLE, Int.reduceEq, reduceIte, reduceCtorEq, da, int, boolA, dr, f3, f18, f19, f20, g1, c0, c1, km, w1, w2]
      rw [← hx_nil (hx K _)]
      refine ih (i + 1) (n + x.2) _ _ (by omega) (by omega) (by omega) (by omega) (get_old z0 _) (get_old z1 _) ?_ ?_ ?_ ?_ ?_ ?_ ?_ ?_ <;> simp only [↓vp, vz, Nat.reduceLT, Nat.reduceEqDiff, Nat.reduceLeDiff, Nat.reduceAdd, Nat.reduceSub, Nat.reduceMul, Int.reduceBEq, Int.reduceBNe, Int.reduceLT, Int.reduceLE, Int.reduceEq, reduceIte, reduceCtorEq, da, int, boolA, f1, f12, f13, f14, f18, f19]
    | false =>
      rw [c, if_neg (by simp)] at hs
      rw [c] at km
      simp only [boolA] at km
      simp only [↓vp, vz, Nat.reduceLT, Nat.reduceEqDiff, Nat.reduceLeDiff, Nat.reduceAdd, Nat.reduceSub, Nat.reduceMul, Int.reduceBEq, Int.reduceBNe, Int.reduceLT, Int.reduceLE, Int.reduceEq, reduceIte, reduceCtorEq, da, int, boolA, dr, f3, f18, f19, f20, g1, c0, c1, km, w1]
      rw [← hx_nil (hx K _)]
      refine ih (i + 1) n _ _ (by omega) (by omega) h1 (by omega) (get_old z0 _) (get_old z1 _) ?_ ?_ ?_ ?_ ?_ ?_ ?_ ?_ <;> simp only [↓vp, vz, Nat.reduceLT, Nat.reduceEqDiff, Nat.reduceLeDiff, Nat.reduceAdd, Nat.reduceSub, Nat.reduceMul, Int.reduceBEq, Int.reduceBNe, Int.reduceLT, Int.reduceLE, Int.reduceEq, reduceIte, reduceCtorEq, da, int, boolA, f1, f12, f13, f14, f3, f18, f19]
def fewS (f h : List RunM) : Bool:=decide (f.length + h.length ≤ 400) && decide (sumD f + sumD h ≤ 3000)
theorem s15 (f h : List RunM) (hf : f.length ≤ 100000000000000) (hh : h.length ≤ 100000000000000) (H : Heap) : callL ftG (.fn (.func 15) [] []) [.agg [encR f,encR h]] H = some (boolA (fewS f h),H):=by
 refine call_p (as':=[.agg [encR f,encR h]]) rfl rfl (by simp) ?_
 unfold c15 r15
 have bf:=sumD_bd f
 have bh:=sumD_bd h
 have ln : ∀ H (l : List RunM),lenV H 0 (encR l) = some (.sc (.int .i64 (l.length : Nat)),H):=fun _ _ => lenR _
 have w0 : IntKind.i64.wrap (0 + 1) = 1:=rfl
 have w1 : IntKind.i64.wrap (1 + 1) = 2:=rfl
 simp only [↓vp,vz,Nat.reduceLT,Nat.reduceEqDiff,Nat.reduceLeDiff,Nat.reduceAdd,Nat.reduceSub,Nat.reduceMul,Int.reduceBEq,Int.reduceBNe,Int.reduceLT,Int.reduceLE,Int.reduceEq,reduceIte,reduceCtorEq,da,int,boolA,dr]
 rw [← hx_nil (hx Heap.empty _)]
 have z0 : (hx Heap.empty [.box false [encR f,encR h],.row false 1 [[encR f],[encR h]]]).get 0 = some (.box false [encR f,encR h]):=rfl
 have z1 : (hx Heap.empty [.box false [encR f,encR h],.row false 1 [[encR f],[encR h]]]).get 1 = some (.row false 1 [[encR f],[encR h]]):=rfl
 generalize hx Heap.empty [.box false [encR f,encR h],.row false 1 [[encR f],[encR h]]] = K0 at *
 have ia0 : ∀ {K : Heap} (_ : K.get 1 = some (.row false 1 [[encR f],[encR h]])) L,iaddrA (hx K L) none 1 (.sl 1 0 2) 0 = some (.ptr 1 0 0):=fun hk L => ia_off (i:=0) (get_old hk L) (by decide)
 have ia1 : ∀ {K : Heap} (_ : K.get 1 = some (.row false 1 [[encR f],[encR h]])) L,iaddrA (hx K L) none 1 (.sl 1 0 2) 1 = some (.ptr 1 1 0):=fun hk L => ia_off (i:=1) (get_old hk L) (by decide)
 have i0:=fun L => ia0 z1 L
 have y1:=fun L => get_old z1 L
 generalize hLP : ACode.loop c15L2 = LP
 rw [← hLP,AW_loop,hLP]
 unfold c15L2
 simp only [↓vp,vz,Nat.reduceLT,Nat.reduceEqDiff,Nat.reduceLeDiff,Nat.reduceAdd,Nat.reduceSub,Nat.reduceMul,Int.reduceBEq,Int.reduceBNe,Int.reduceLT,Int.reduceLE,Int.reduceEq,reduceIte,reduceCtorEq,da,int,boolA,dr,i0,y1,ln]
 refine l15 f hf (.box false [encR f,encR h]) (.row false 1 [[encR f],[encR h]]) (.ptr 0 0 0) (.sl 1 0 2) (int 2) (int 0) 0 (by decide) (by decide) (fun f1 K1 u0 u1 e1 e12 e13 e14 e3 => ?_) f.length 0 0 K0 _ (by simp) rfl (by decide) (by decide) z0 z1 ?_ ?_ ?_ ?_ ?_ ?_ ?_ ?_
 rotate_left
 iterate 8 first | (focus (simp only [↓vp,vz,Nat.reduceLT,Nat.reduceEqDiff,Nat.reduceLeDiff,Nat.reduceAdd,Nat.reduceSub,Nat.reduceMul,Int.reduceBEq,Int.reduceBNe,Int.reduceLT,Int.reduceLE,Int.reduceEq,reduceIte,reduceCtorEq,da,int,boolA]; done)) | (focus (simp only [↓vp,vz,Nat.reduceLT,Nat.reduceEqDiff,Nat.reduceLeDiff,Nat.reduceAdd,Nat.reduceSub,Nat.reduceMul,Int.reduceBEq,Int.reduceBNe,Int.reduceLT,Int.reduceLE,Int.reduceEq,reduceIte,reduceCtorEq,da,int,boolA]; rfl))
 have i1:=fun L => ia1 u1 L
 have y1':=fun L => get_old u1 L
 rw [Int.zero_add] at e3
 unfold c15R1
 simp only [↓vp,vz,Nat.reduceLT,Nat.reduceEqDiff,Nat.reduceLeDiff,Nat.reduceAdd,Nat.reduceSub,Nat.reduceMul,Int.reduceBEq,Int.reduceBNe,Int.reduceLT,Int.reduceLE,Int.reduceEq,reduceIte,reduceCtorEq,da,int,boolA,dr,e14,w0]
 rw [← hLP,AW_loop,hLP]
 unfold c15L2
 simp only [↓vp,vz,Nat.reduceLT,Nat.reduceEqDiff,Nat.reduceLeDiff,Nat.reduceAdd,Nat.reduceSub,Nat.reduceMul,Int.reduceBEq,Int.reduceBNe,Int.reduceLT,Int.reduceLE,Int.reduceEq,reduceIte,reduceCtorEq,da,int,boolA,dr,e12,e13,i1,y1',ln]
 refine l15 h hh (.box false [encR f,encR h]) (.row false 1 [[encR f],[encR h]]) (.ptr 0 0 0) (.sl 1 0 2) (int 2) (int 1) (sumD f) bf.1 (by omega) (fun f2 K2 t0 t1 g1 g12 g13 g14 g3 => ?_) h.length 0 (sumD f) K1 _ (by simp) rfl bf.1 (by omega) u0 u1 ?_ ?_ ?_ ?_ ?_ ?_ ?_ ?_
 rotate_left
 iterate 8 first | (focus (simp only [↓vp,vz,Nat.reduceLT,Nat.reduceEqDiff,Nat.reduceLeDiff,Nat.reduceAdd,Nat.reduceSub,Nat.reduceMul,Int.reduceBEq,Int.reduceBNe,Int.reduceLT,Int.reduceLE,Int.reduceEq,reduceIte,reduceCtorEq,da,int,boolA,e1,e12,e13,e3]; done)) | (focus (simp only [↓vp,vz,Nat.reduceLT,Nat.reduceEqDiff,Nat.reduceLeDiff,Nat.reduceAdd,Nat.reduceSub,Nat.reduceMul,Int.reduceBEq,Int.reduceBNe,Int.reduceLT,Int.reduceLE,Int.reduceEq,reduceIte,reduceCtorEq,da,int,boolA]; rfl))
 unfold c15R1
 simp only [↓vp,vz,Nat.reduceLT,Nat.reduceEqDiff,Nat.reduceLeDiff,Nat.reduceAdd,Nat.reduceSub,Nat.reduceMul,Int.reduceBEq,Int.reduceBNe,Int.reduceLT,Int.reduceLE,Int.reduceEq,reduceIte,reduceCtorEq,da,int,boolA,dr,g14,w1]
 rw [← hLP,AW_loop,hLP]
 unfold c15L2 c15R3
 have y0:=fun L => get_old t0 L
 have w2 : IntKind.i64.wrap ((f.length : Int) + h.length) = ((f.length + h.length : Nat) : Int):=by rw [wrap_i64 (by omega)]; omega
 unfold fewS
 by_cases c1 : f.length + h.length ≤ 400
 ·have d1 : (((f.length + h.length : Nat) : Int) ≤ 400) = True:=eq_true (by omega)
  rw [decide_eq_true c1]
  by_cases c2 : sumD f + sumD h ≤ 3000
  ·rw [decide_eq_true c2]
   simp only [↓vp,vz,Nat.reduceLT,Nat.reduceEqDiff,Nat.reduceLeDiff,Nat.reduceAdd,Nat.reduceSub,Nat.reduceMul,Int.reduceBEq,Int.reduceBNe,Int.reduceLT,Int.reduceLE,Int.reduceEq,reduceIte,reduceCtorEq,da,int,boolA,rt,dr,g1,g12,g13,g3,y0,ln,w2,d1,eq_true c2,Bool.and_self]
  ·rw [decide_eq_false c2]
   simp only [↓vp,vz,Nat.reduceLT,Nat.reduceEqDiff,Nat.reduceLeDiff,Nat.reduceAdd,Nat.reduceSub,Nat.reduceMul,Int.reduceBEq,Int.reduceBNe,Int.reduceLT,Int.reduceLE,Int.reduceEq,reduceIte,reduceCtorEq,da,int,boolA,rt,dr,g1,g12,g13,g3,y0,ln,w2,d1,eq_false c2,Bool.and_false]
 ·have d1 : (((f.length + h.length : Nat) : Int) ≤ 400) = False:=eq_false (by omega)
  rw [decide_eq_false c1]
  simp only [↓vp,vz,Nat.reduceLT,Nat.reduceEqDiff,Nat.reduceLeDiff,Nat.reduceAdd,Nat.reduceSub,Nat.reduceMul,Int.reduceBEq,Int.reduceBNe,Int.reduceLT,Int.reduceLE,Int.reduceEq,reduceIte,reduceCtorEq,da,int,boolA,rt,dr,g1,g12,g13,g3,y0,ln,w2,d1,Bool.false_and]
end Go.VI
namespace Go.VI
def AF : List RunM:=[(5,2)]
def AH : List RunM:=[(9,1)]
def P1 : List Int:=pageK 2 [3] 0 [5,6,9]
theorem alive_pages : stPages AF AH [3] = [P1]:=by decide +kernel
theorem P1_len : P1.length = 256:=by decide +kernel
theorem P1_head : (headAt P1).kind = 70 ∧ (headAt P1).gen = 1 ∧ (headAt P1).count = 3 ∧ (headAt P1).next = 0:=by decide +kernel
theorem P1_vals : valM (partB (P1.drop 8) 0 4) = 1 ∧ valM (partB (P1.drop 8) 4 4) = 5 ∧ valM (partB (P1.drop 8) 8 4) = 6 ∧ valM (partB (P1.drop 8) 12 4) = 9:=by decide +kernel
theorem P1_24 : P1.take 24 = [70,1,3,0,0,0,0,0,1,0,0,0,5,0,0,0,6,0,0,0,9,0,0,0]:=by decide +kernel
theorem A_right : rightS AF AH = true:=by decide +kernel
theorem A_need : needM 1 AF AH = 1:=by decide +kernel
theorem A_need3 : needM 3 AF AH = 1:=by decide +kernel
theorem A_places : placesM [3] 1 = true:=by decide +kernel
theorem A_of : ofM [5,6] = AF ∧ ofM [9] = AH:=by decide +kernel
end Go.VI
namespace Go.VI
attribute [local congr] AW_congr OW_congr DW_congr NW_congr VW_congr GW_congr PW_congr KW_congr ite_congr' GV_congr CV_congr KF_congr
def rdF (lid : Nat) : AV:=.fn (.func 25) [] [.ptr lid 0 0]
section
variable {K : Heap} {lid : Nat} (hl : K.get lid = some (.box false [encP [P1]])) {Q : AV → Heap → Prop}
include hl
theorem o25 {i : Int} : KW ftG (rdF lid) [int i] K Q ↔ Q (.tup [encB P1,int 0]) K:=by
 have y0:=fun L => get_old hl L
 have i0 : ∀ H,iaddrA H none 1 (encP [P1]) 0 = some (.pim [[encB P1]] 0 0):=fun _ => rfl
 have c0 : ∀ H off n,cellsAt H (.pim [[encB P1]] 0 off) n = if off + n ≤ 1 then some ((([encB P1] : List AV).drop off).take n) else none:=fun _ _ _ => rfl
 refine KW_of (call_o rfl (by simp) ?_)
 unfold c25 r25 RetO
 simp only [↓vp,vz,Nat.reduceLT,Nat.reduceEqDiff,Nat.reduceLeDiff,Nat.reduceAdd,Nat.reduceSub,Nat.reduceMul,Int.reduceBEq,Int.reduceBNe,Int.reduceLT,Int.reduceLE,Int.reduceEq,reduceIte,reduceCtorEq,da,int,boolA,dr,y0,i0,c0,resultsA,resT,resN]
 exact hx_nil K
end
def hd1 : List AV:=[int 70,int 1,int 3,int 0]
theorem k28 {K : Heap} {L : List Blk} {Q : AV → Heap → Prop} : KW ftG (.fn (.func 28) [] []) [encB P1] (hx K L) Q ↔ Q (.tup [.agg hd1,int 0]) (hx K L):=by
 obtain ⟨h1,h2,h3,h4⟩:=P1_head
 have hk : knownM (headAt P1) = true:=by unfold knownM; rw [h1,h2]; decide
 have s:=s28 (b:=P1) (by rw [P1_len]; decide) (by rw [P1_len]; decide) hk (by rw [h1]; decide) (by rw [h3]; decide) (by rw [h4]; decide) h2 (hx K L)
 unfold headC at s
 rw [h1,h2,h3,h4] at s
 exact KW_of s
theorem k108 {K : Heap} {L : List Blk} {Q : AV → Heap → Prop} : KW ftG (.fn (.func 108) [] []) [encB P1] (hx K L) Q ↔ Q (encB (P1.drop 8)) (hx K L):=by
 obtain ⟨h1,h2,h3,h4⟩:=P1_head
 have hk : knownM (headAt P1) = true:=by unfold knownM; rw [h1,h2]; decide
 exact KW_of (s108 (b:=P1) P1_len hk (by rw [h1]; decide) (by rw [h3]; decide) (by rw [h4]; decide) h2 (hx K L))
theorem k60 {K : Heap} {bs : List Int} (h : bs.length ≤ 1000000) {Q : AV → Heap → Prop} : KW ftG (.fn (.func 60) [] []) [encB bs] K Q ↔ Q (.ptr K.next 0 0) (hx K [curB (encB bs) 0 false]):=by
 have k104 : ∀ L Q,KW ftG (.fn (.func 104) [] []) [encB bs] (hx K L) Q ↔ Q (encB bs) (hx K L):=fun L Q => KW_of (call_pprim (as':=[encB bs]) (p:=cloF 1 1) rfl rfl (cloB_val _ h))
 refine KW_of (call_o rfl (by simp) ?_)
 unfold c60 r60 RetO
 simp only [↓vp,vz,Nat.reduceLT,Nat.reduceEqDiff,Nat.reduceLeDiff,Nat.reduceAdd,Nat.reduceSub,Nat.reduceMul,Int.reduceBEq,Int.reduceBNe,Int.reduceLT,Int.reduceLE,Int.reduceEq,reduceIte,reduceCtorEq,da,int,boolA,dr,k104,resultsA,resT,resN]
 rfl
theorem o67 {K : Heap} {lid rid mid : Nat} {F H I : AV} (hl : K.get lid = some (.box false [encP [P1]])) (hr : K.get rid = some (.box false [rdF lid,int 1,F,H,I,.mp mid,boolA false])) (hm : K.get mid = some (.mpb (some .i64) [] [] 0)) {Q : AV → Heap → Prop}
  (hq : ∀ K' cid,K'.get cid = some (curB (encB (P1.drop 8)) 0 false) → K.next ≤ cid → (∀ j,j < K.next → j ≠ mid → K'.get j = K.get j) → Q (.tup [.agg hd1,.ptr cid 0 0]) K') : KW ftG (.fn (.func 67) [] []) [.ptr rid 0 0,int 3] K Q:=by
 have yr:=fun L => get_old hr L
 have ym:=fun L => get_old hm L
 have lm:=Heap.get_lt hm
 have k25:=fun L Q => @o25 (hx K L) lid (get_old hl L) Q 3
 have k28':=fun K L Q => @k28 K L Q
 have k108':=fun K L Q => @k108 K L Q
 have ln : ∀ H,lenV H 0 (encB P1) = some (.sc (.int .i64 256),H):=fun H => by
  have:=P1_len
  simp [lenV,lenOfA,encB,this]
 have gs : ∀ L b,(hx K L).set mid b = hx (K.set mid b) L:=fun L b => hx_set_old K L b mid lm
 unfold hd1 at k28' hq
 simp only [int,boolA] at yr k25 k28' hq
 refine call_W rfl (by simp) ?_
 unfold c67 r67
 have lk : ∀ k,lookE k [] = none:=fun _ => rfl
 have v108 : ∀ l,pureV ftG (.fn (.func 108) [] []) [encB l] = some (false,[]):=fun _ => rfl
 have v60 : ∀ args,pureV ftG (.fn (.func 60) [] []) args = none:=fun _ => rfl
 have v60t : ∀ args,pureV ftG (.tup [.fn (.func 60) [] []]) args = none:=fun _ => rfl
 have xf : ∀ q,exFQ (none : FP).isSome q = q:=fun q => by cases q <;> rfl
 have k60':=fun K L Q => @k60 (hx K L) (P1.drop 8) (by rw [List.length_drop,P1_len]; decide) Q
 have sJ : ∀ G a b L M,sameAt (hx G (a :: b :: L)) (hx G (a :: b :: M)) [(G : Heap).next + 1] = true:=fun G a b L M => by
  rw [sameAt1]
  have e1:=hx_get G (a :: b :: L) 1
  have e2:=hx_get G (a :: b :: M) 1
  rw [e1,e2]
  rfl
 have nx : ∀ b,(K.set mid b).next = K.next:=fun b => Heap.next_set _ _ _
 have sJ' : ∀ c a b L M,sameAt (hx (K.set mid c) (a :: b :: L)) (hx (K.set mid c) (a :: b :: M)) [K.next + 1] = true:=fun c a b L M => by
  have:=sJ (K.set mid c) a b L M
  rw [nx] at this
  exact this
 simp only [↓vp,vz,Nat.reduceLT,Nat.reduceEqDiff,Nat.reduceLeDiff,Nat.reduceAdd,Nat.reduceSub,Nat.reduceMul,Int.reduceBEq,Int.reduceBNe,Int.reduceLT,Int.reduceLE,Int.reduceEq,reduceIte,reduceCtorEq,da,int,boolA,dr,yr,ym,k25,k28',k108',ln,gs,keyOk,lk,Option.getD_none,v108,v60,v60t,xf,mkFQ_n,k60',hx_hx,sJ',compat_la,compat_al,nx]
 unfold RetW resultsA
 refine ⟨rfl,?_⟩
 simp only [↓vp,vz,Nat.reduceLT,Nat.reduceEqDiff,Nat.reduceLeDiff,Nat.reduceAdd,Nat.reduceSub,Nat.reduceMul,Int.reduceBEq,Int.reduceBNe,Int.reduceLT,Int.reduceLE,Int.reduceEq,reduceIte,reduceCtorEq,da,int,boolA,dr,resC,resT,resN,nx]
 refine ⟨_,rfl,hq _ (K.next + 2) ?_ (by omega) fun j hj hjm => ?_⟩
 ·have:=hx_get (K.set mid (.mpb (some .i64) (putE (.sc (.int .i64 3)) (.sc (.int .i64 1)) []) (putB (none : Option AV).isSome [] 0) (putC (none : Option AV).isSome 0))) [.box false [.sc (.int .i64 70),.sc (.int .i64 1),.sc (.int .i64 3),.sc (.int .i64 0)],.box false [.sc (.int .i64 70),.sc (.int .i64 1),.sc (.int .i64 3),.sc (.int .i64 0)],curB (encB (P1.drop 8)) 0 false] 2
  rw [nx] at this
  exact this
 ·rw [hx_get_old _ _ _ (by rw [nx]; exact hj),Heap.get_set_ne _ hjm]
end Go.VI
namespace Go.VI
attribute [local congr] AW_congr OW_congr DW_congr NW_congr VW_congr GW_congr PW_congr KW_congr ite_congr' GV_congr CV_congr KF_congr
theorem heapSetSame {H : Heap} {id : Nat} {b : Blk} (h : H.get id = some b) : H.set id b = H:=by
 obtain ⟨bs⟩:=H
 show (⟨bs.set id b⟩ : Heap) = ⟨bs⟩
 congr 1
 obtain ⟨hlt,he⟩:=List.getElem?_eq_some_iff.1 h
 rw [← he]
 exact List.set_getElem_self hlt
def Sep (S T : AV) : Prop:=∀ i a b j c d,S = .sl i a b → T = .sl j c d → i ≠ j
structure ChS (K : Heap) (rid hid cid : Nat) (fn mp I : AV) (bb : List Int) (cnt : Int) (F H : AV) (fs hs is : List Int) (a : Nat) : Prop where
 rd : K.get rid = some (.box false [fn,int 1,F,H,I,mp,boolA false])
 hd : K.get hid = some (.box false [int 70,int 1,int cnt,int 0])
 cu : K.get cid = some (curB (encB bb) a false)
 f : Rep K 1 F (fs.map numC)
 h : Rep K 1 H (hs.map numC)
 i : Rep K 1 I (is.map numC)
 fh : Sep F H
 fi : Sep F I
 hi : Sep H I
theorem rep_old {K K' : Heap} {cid : Nat} {S : AV} {rows : List (List AV)} (h : Rep K 1 S rows) {cs' : List AV} (hc : K.get cid = some (.box false cs')) (hq : ∀ j,j < K.next → j ≠ cid → K'.get j = K.get j) : Rep K' 1 S rows:=by
 refine h.mono fun id hid => ?_
 rw [hq id (Heap.get_lt hid) (fun e => by rw [e,hc] at hid; cases hid)]
 exact hid
theorem rep_kill {K : Heap} {S T : AV} {rows : List (List AV)} (h : Rep K 1 S rows) (hs : Sep S T) (rid : Nat) (b : Blk) (hr : ∀ r,K.get rid ≠ some (.row false 1 r)) (L : List Blk) : Rep (hx ((kill K T).set rid b) L) 1 S rows:=by
 rcases h with h | ⟨id,rfl,h⟩
 ·exact .inl h
 ·refine .inr ⟨id,rfl,get_old ?_ L⟩
  rw [Heap.get_set_ne _ (fun e => hr _ (e ▸ h))]
  cases T with
  | sl i a b => exact (Heap.get_set_ne _ (hs _ _ _ _ _ _ rfl rfl)).trans h
  | _ => exact h
theorem kill_same {K : Heap} {S : AV} {j : Nat} (h : ∀ i a b,S = .sl i a b → j ≠ i) : (kill K S).get j = K.get j:=by
 cases S with
 | sl i a b => exact Heap.get_set_ne _ (h i a b rfl)
 | _ => rfl
section
variable {bb vals : List Int} {m held : Nat} (hbb : 4 + 4 * vals.length ≤ bb.length) (hsm : bb.length ≤ 1000000) (hv : ∀ k (hk : k < vals.length), valM (partB bb (4 + 4 * k) 4) = vals[k] ∧ 0 ≤ vals[k] ∧ vals[k] ≤ 4294967295) (hm : m + held = vals.length)
   {rid hid cid : Nat} {fn mp I : AV} {is : List Int} (B : Nat) (hI : ∀ i a b, I = .sl i a b → B ≤ i) (hB : rid < B ∧ hid < B ∧ cid < B) (d1 : rid ≠ cid) (d2 : hid ≠ cid) (d3 : rid ≠ hid)
include hbb hsm hv hm hI hB d1 d2 d3
theorem l30 {Q : AExit → Env → Heap → Prop} (K0 : Heap) (x4 x5 : AV)
   (hex : ∀ f' K F H, ChS K rid hid cid fn mp I bb vals.length F H (vals.take m) (vals.drop m) is (4 + 4 * vals.length) → K0.next ≤ K.next → (∀ j, j < B → j ≠ rid → j ≠ cid → K.get j = K0.get j) → f' 0 = .ptr rid 0 0 → f' 4 = .ptr hid 0 0 → f' 5 = .ptr cid 0 0 → Q (.exit 2) (mkE 94 f') (hx K [])) :
   ∀ (d i : Nat) (K : Heap) (f : Nat → AV) (F H : AV), i + d = vals.length → ChS K rid hid cid fn mp I bb vals.length F H (vals.take (min i m)) ((vals.take i).drop m) is (4 + 4 * i) → B ≤ K.next → K0.next ≤ K.next → (∀ j, j < B → j ≠ rid → j ≠ cid → K.get j = K0.get j) →
     (∀ i a b, F = .sl i a b → B ≤ i) → (∀ i a b, H = .sl i a b → B ≤ i) → f 0 = .ptr rid 0 0 → f 4 = .ptr hid 0 0 → f 5 = .ptr cid 0 0 → f 6 = int held → f 7 = int i →
    AW ftG (.loop c30L0) (mkE 94 f) (hx K []) Q := by
  intro d
  induction d with
  | zero =>
    intro i K f F H hd hc hBK hn hk hF hH f0 f4 f5 f6 f7
    have g : ((i : Int) < vals.length) = False := by simp; omega
    have yh := fun L => get_old hc.hd L
    simp only [int] at yh
    have e1 : vals.take (min i m) = vals.take m := by rw [Nat.min_eq_right (by omega)]
    have e2 : (vals.take i).drop m = vals.drop m := by rw [List.take_of_length_le (by omega)]
    rw [e1, e2, show i = vals.length by omega] at hc
    rw [AW_loop]
    unfold c30L0
    simp only [↓vp, vz, Nat.reduceLT, Nat.reduceEqDiff, Nat.reduceLeDiff, Nat.reduceAdd, Nat.reduceSub, Nat.reduceMul, Int.reduceBEq, Int.reduceBNe, Int.reduceLT, Int.reduceLE, Int.reduceEq, reduceIte, reduceCtorEq, da, int, boolA, dr, f0, f4, f5, f7, yh, g]
    refine hex _ K F H hc hn hk ?_ ?_ ?_ <;> simp only [↓vp, vz, Nat.reduceLT, Nat.reduceEqDiff, Nat.reduceLeDiff, Nat.reduceAdd, Nat.reduceSub, Nat.reduceMul, Int.reduceBEq, Int.reduceBNe, Int.reduceLT, Int.reduceLE, Int.reduceEq, reduceIte, reduceCtorEq, da, int, boolA, f0, f4, f5]
  | succ d ih =>
    intro i K f F H hd hc hBK hn hk hF hH f0 f4 f5 f6 f7
    have g : ((i : Int) < vals.length) = True := by simp; omega
    have gi : i < vals.length := by omega
    obtain ⟨v1, v2, v3⟩ := hv i gi
    have yh := fun L => get_old hc.hd L
    have yr := fun L => get_old hc.rd L
    have k62 : ∀ L Q, KW ftG (.fn (.func 62) [] []) [.ptr cid 0 0] (hx K L) Q ↔ Q (int 0) (hx K L) := fun L Q => o62 (cid := cid) (get_old hc.cu L)
    have k66' := fun K L Q => @k66 1 K L Q
    rw [show (traitM 1).2.2.1 = 4 from rfl] at k66'
    have w1 := wrap_succ (show i < 9223372036854775807 by omega)
    have w2 : IntKind.i64.wrap ((vals.length : Int) - held) = (m : Int) := by rw [wrap_i64 (by omega)]; omega
    simp only [int, boolA] at yh yr k62 k66'
    rw [AW_loop]
    unfold c30L0
    simp only [↓vp, vz, Nat.reduceLT, Nat.reduceEqDiff, Nat.reduceLeDiff, Nat.reduceAdd, Nat.reduceSub, Nat.reduceMul, Int.reduceBEq, Int.reduceBNe, Int.reduceLT, Int.reduceLE, Int.reduceEq, reduceIte, reduceCtorEq, da, int, boolA, dr, f0, f4, f5, f6, f7, yh, yr, g, k62, k66']
    rw [hx_nil]
    have hw4 : ((4 : Nat) : Int) = 4 := rfl
    refine o61 (a := 4 + 4 * i) (w := 4) hc.cu (by decide) (by decide) (by omega) hsm (by rw [v1]; omega) (by rw [v1]; exact v2) fun K2 q1 q2 q3 => ?_
    rw [v1]
    have lr := Heap.get_lt hc.rd
    have lh := Heap.get_lt hc.hd
    have r2 : K2.get rid = _ := (q3 rid lr d1).trans hc.rd
    have h2 : K2.get hid = _ := (q3 hid lh d2).trans hc.hd
    have rF : Rep K2 1 F _ := rep_old hc.f hc.cu q3
    have rH : Rep K2 1 H _ := rep_old hc.h hc.cu q3
    have rI : Rep K2 1 I _ := rep_old hc.i hc.cu q3
    have zr := fun L => get_old r2 L
    have zh := fun L => get_old h2 L
    have fl : (vals.take (min i m)).length = min i m := by rw [List.length_take]; omega
    have hl : ((vals.take i).drop m).length = i - m := by rw [List.length_drop, List.length_take]; omega
    have new : ∀ (S' : AV) n, S' = .sl (K2.next + 1) 0 n → ∀ i a b, S' = .sl i a b → B ≤ i := fun S' n e i' a b e' => by rw [e] at e'; injection e' with e1; omega
    have frame : ∀ (S : AV) (b x y : Blk), (∀ i a b, S = .sl i a b → B ≤ i) → ∀ j, j < B → j ≠ rid → (hx ((kill K2 S).set rid b) [x, y]).get j = K2.get j := fun S b x y hS j hj hjr => by
      rw [hx_get_old _ _ _ (by rw [Heap.next_set, kill_next]; omega), Heap.get_set_ne _ hjr]
      exact kill_same fun i' a b e => by have := hS i' a b e; omega
    have sepn : ∀ (S : AV) n rows, Rep K2 1 S rows → Sep (.sl (K2.next + 1) 0 n) S ∧ Sep S (.sl (K2.next + 1) 0 n) := fun S n rows h => by
      rcases h with ⟨rfl, _⟩ | ⟨id, rfl, hg⟩
      · exact ⟨fun i a b j c d _ e => (by cases e), fun i a b j c d e _ => (by cases e)⟩
      · have := Heap.get_lt hg
        exact ⟨fun i a b j c d e1 e2 => (by injection e1 with e1; injection e2 with e2; omega), fun i a b j c d e1 e2 => (by injection e1 with e1; injection e2 with e2; omega)⟩
    have nrow : ∀ r, K2.get rid ≠ some (.row false 1 r) := fun r e => by rw [r2] at e; cases e
    simp only [int, boolA] at zr zh
    have put : ∀ (S : AV) (n : Nat) (rows : List (List AV)) b x, (hx ((kill K2 S).set rid b) [x, .row false 1 rows]).get (K2.next + 1) = some (.row false 1 rows) := fun S n rows b x => by
      have := hx_get ((kill K2 S).set rid b) [x, .row false 1 rows] 1
      rw [Heap.next_set, kill_next] at this
      exact this
    by_cases c : i < m
    · have dm : ((i : Int) < m) = True := eq_true (by omega)
      have ap := fun nid L => appA_rep (nid := nid) (bytes := 8) rF (xs := [numC vals[i]]) (by simp) rfl (by rw [List.length_map, fl]; simp; omega) L
      rw [List.length_map, fl] at ap
      have et : (vals.take (min i m)).map numC ++ [numC vals[i]] = (vals.take (min (i + 1) m)).map numC := by
        rw [Nat.min_eq_left (by omega), Nat.min_eq_left (by omega), List.take_succ_eq_append_getElem gi, List.map_append]
        rfl
      rw [et] at ap
      simp only [numC, int, List.length_singleton] at ap
      have kr : (kill K2 F).get rid = _ := (kill_same fun i' a b e => by have := hF i' a b e; omega).trans r2
      have yk := fun L => get_old kr L
      have gs : ∀ L b, (hx (kill K2 F) L).set rid b = hx ((kill K2 F).set rid b) L := fun L b => hx_set_old _ L b rid (by rw [kill_next]; omega)
      simp only [int, boolA] at yk
      rw [← hx_nil K2]
      simp only [↓vp, vz, Nat.reduceLT, Nat.reduceEqDiff, Nat.reduceLeDiff, Nat.reduceAdd, Nat.reduceSub, Nat.reduceMul, Int.reduceBEq, Int.reduceBNe, Int.reduceLT, Int.reduceLE, Int.reduceEq, reduceIte, reduceCtorEq, da, int, boolA, dr, f0, f4, f6, f7, zh, zr, w2, dm, ap, kill_next, yk, gs, w1]
      rw [← hx_nil (hx _ _)]
      have e2 : (vals.take (i + 1)).drop m = (vals.take i).drop m := by rw [List.drop_eq_nil_of_le (by rw [List.length_take]; omega), List.drop_eq_nil_of_le (by rw [List.length_take]; omega)]
      refine ih (i + 1) _ _ (.sl (K2.next + 1) 0 (min i m + 1)) H (by omega) ⟨?_, ?_, ?_, ?_, ?_, ?_, ?_, ?_, ?_⟩ ?_ ?_ (fun j hj hjr hjc => ?_) (new _ _ rfl) hH ?_ ?_ ?_ ?_ ?_
      · exact get_old (Heap.get_set_self _ (by rw [kill_next]; omega)) _
      · rw [frame F _ _ _ hF hid hB.2.1 d3.symm, h2]
      · rw [frame F _ _ _ hF cid hB.2.2 d1.symm, q1]
        rfl
      · refine .inr ⟨K2.next + 1, by rw [List.length_map, List.length_take]; congr 1; omega, put _ 0 _ _ _⟩
      · rw [e2]
        exact rep_kill rH (fun i a b j c d e1 e2 => (hc.fh j c d i a b e2 e1).symm) rid _ nrow _
      · exact rep_kill rI (fun i a b j c d e1 e2 => (hc.fi j c d i a b e2 e1).symm) rid _ nrow _
      · exact (sepn H _ _ rH).1
      · exact (sepn I _ _ rI).1
      · exact hc.hi
      · rw [hx_next, Heap.next_set, kill_next]; omega
      · rw [hx_next, Heap.next_set, kill_next]; omega
      · rw [frame F _ _ _ hF j hj hjr, q3 j (by omega) hjc]
        exact hk j hj hjr hjc
      all_goals simp only [↓vp, vz, Nat.reduceLT, Nat.reduceEqDiff, Nat.reduceLeDiff, Nat.reduceAdd, Nat.reduceSub, Nat.reduceMul, Int.reduceBEq, Int.reduceBNe, Int.reduceLT, Int.reduceLE, Int.reduceEq, reduceIte, reduceCtorEq, da, int, boolA, f0, f4, f5, f6]
    · have dm : ((i : Int) < m) = False := eq_false (by omega)
      have ap := fun nid L => appA_rep (nid := nid) (bytes := 8) rH (xs := [numC vals[i]]) (by simp) rfl (by rw [List.length_map, hl]; simp; omega) L
      rw [List.length_map, hl] at ap
      have et : ((vals.take i).drop m).map numC ++ [numC vals[i]] = ((vals.take (i + 1)).drop m).map numC := by
        rw [List.take_succ_eq_append_getElem gi, List.drop_append_of_le_length (by rw [List.length_take]; omega), List.map_append]
        rfl
      rw [et] at ap
      simp only [numC, int, List.length_singleton] at ap
      have kr : (kill K2 H).get rid = _ := (kill_same fun i' a b e => by have := hH i' a b e; omega).trans r2
      have yk := fun L => get_old kr L
      have gs : ∀ L b, (hx (kill K2 H) L).set rid b = hx ((kill K2 H).set rid b) L := fun L b => hx_set_old _ L b rid (by rw [kill_next]; omega)
      simp only [int, boolA] at yk
      rw [← hx_nil K2]
      simp only [↓vp, vz, Nat.reduceLT, Nat.reduceEqDiff, Nat.reduceLeDiff, Nat.reduceAdd, Nat.reduceSub, Nat.reduceMul, Int.reduceBEq, Int.reduceBNe, Int.reduceLT, Int.reduceLE, Int.reduceEq, reduceIte, reduceCtorEq, da, int, boolA, dr, f0, f4, f6, f7, zh, zr, w2, dm, ap, kill_next, yk, gs, w1]
      rw [← hx_nil (hx _ _)]
      have e2 : vals.take (min (i + 1) m) = vals.take (min i m) := by rw [Nat.min_eq_right (by omega), Nat.min_eq_right (by omega)]
      refine ih (i + 1) _ _ F (.sl (K2.next + 1) 0 (i - m + 1)) (by omega) ⟨?_, ?_, ?_, ?_, ?_, ?_, ?_, ?_, ?_⟩ ?_ ?_ (fun j hj hjr hjc => ?_) hF (new _ _ rfl) ?_ ?_ ?_ ?_ ?_
      · exact get_old (Heap.get_set_self _ (by rw [kill_next]; omega)) _
      · rw [frame H _ _ _ hH hid hB.2.1 d3.symm, h2]
      · rw [frame H _ _ _ hH cid hB.2.2 d1.symm, q1]
        rfl
      · rw [e2]
        exact rep_kill rF hc.fh rid _ nrow _
      · refine .inr ⟨K2.next + 1, by rw [List.length_map, List.length_drop, List.length_take]; congr 1; omega, put _ 0 _ _ _⟩
      · exact rep_kill rI (fun i a b j c d e1 e2 => (hc.hi j c d i a b e2 e1).symm) rid _ nrow _
      · exact (sepn F _ _ rF).2
      · exact hc.fi
      · exact (sepn I _ _ rI).1
      · rw [hx_next, Heap.next_set, kill_next]; omega
      · rw [hx_next, Heap.next_set, kill_next]; omega
      · rw [frame H _ _ _ hH j hj hjr, q3 j (by omega) hjc]
        exact hk j hj hjr hjc
      all_goals simp only [↓vp, vz, Nat.reduceLT, Nat.reduceEqDiff, Nat.reduceLeDiff, Nat.reduceAdd, Nat.reduceSub, Nat.reduceMul, Int.reduceBEq, Int.reduceBNe, Int.reduceLT, Int.reduceLE, Int.reduceEq, reduceIte, reduceCtorEq, da, int, boolA, f0, f4, f5, f6]
end
structure RdS (K : Heap) (rid : Nat) (fn mp : AV) (F H I : AV) (fs hs is : List Int) : Prop where
 rd : K.get rid = some (.box false [fn,int 1,F,H,I,mp,boolA false])
 f : Rep K 1 F (fs.map numC)
 h : Rep K 1 H (hs.map numC)
 i : Rep K 1 I (is.map numC)
 fh : Sep F H
 fi : Sep F I
 hi : Sep H I
theorem o30 {K : Heap} {lid rid mid : Nat} (hl : K.get lid = some (.box false [encP [P1]])) (hr : K.get rid = some (.box false [rdF lid,int 1,.sc (.slice none 0 0),.sc (.slice none 0 0),.sc (.slice none 0 0),.mp mid,boolA false])) (hm : K.get mid = some (.mpb (some .i64) [] [] 0)) {Q : AV → Heap → Prop}
  (hq : ∀ K' F H I,RdS K' rid (rdF lid) (.mp mid) F H I [5,6] [9] [3] → K.next ≤ K'.next → (∀ j,j < K.next → j ≠ rid → j ≠ mid → K'.get j = K.get j) → Q (.tup []) K') : KW ftG (.fn (.func 30) [] []) [.ptr rid 0 0,int 3] K Q:=by
 have yr:=fun L => get_old hr L
 have lr:=Heap.get_lt hr
 have lm:=Heap.get_lt hm
 have nrm : rid ≠ mid:=fun e => by rw [e,hm] at hr; cases hr
 simp only [int,boolA] at yr
 refine call_W rfl (by simp) ?_
 unfold c30 r30
 generalize hLP : ACode.loop c30L2 = LP
 simp only [↓vp,vz,Nat.reduceLT,Nat.reduceEqDiff,Nat.reduceLeDiff,Nat.reduceAdd,Nat.reduceSub,Nat.reduceMul,Int.reduceBEq,Int.reduceBNe,Int.reduceLT,Int.reduceLE,Int.reduceEq,reduceIte,reduceCtorEq,da,int,boolA,dr]
 rw [← hLP,AW_loop,hLP]
 unfold c30L2
 simp only [↓vp,vz,Nat.reduceLT,Nat.reduceEqDiff,Nat.reduceLeDiff,Nat.reduceAdd,Nat.reduceSub,Nat.reduceMul,Int.reduceBEq,Int.reduceBNe,Int.reduceLT,Int.reduceLE,Int.reduceEq,reduceIte,reduceCtorEq,da,int,boolA,dr,yr]
 rw [hx_nil]
 refine o67 hl hr hm fun K1 cid q1 q2 q3 => ?_
 have r1 : K1.get rid = _:=(q3 rid lr nrm).trans hr
 have y1:=fun L => get_old r1 L
 have lr1:=Heap.get_lt r1
 have lc1:=Heap.get_lt q1
 have gs : ∀ L b,(hx K1 L).set rid b = hx (K1.set rid b) L:=fun L b => hx_set_old K1 L b rid lr1
 unfold hd1
 simp only [int,boolA] at y1
 rw [← hx_nil K1]
 simp only [↓vp,vz,Nat.reduceLT,Nat.reduceEqDiff,Nat.reduceLeDiff,Nat.reduceAdd,Nat.reduceSub,Nat.reduceMul,Int.reduceBEq,Int.reduceBNe,Int.reduceLT,Int.reduceLE,Int.reduceEq,reduceIte,reduceCtorEq,da,int,boolA,dr,y1,gs]
 have ncr : cid ≠ rid:=by omega
 have n2 : (hx (K1.set rid (.box false [rdF lid,.sc (.int .i64 1),.sc (.slice none 0 0),.sc (.slice none 0 0),.sl (K1.next + 2) 0 1,.mp mid,.sc (.bool false)])) [.box false [.sc (.int .i64 70),.sc (.int .i64 1),.sc (.int .i64 3),.sc (.int .i64 0)],.row false 1 [[.sc (.int .i64 3)]],.row false 1 [[.sc (.int .i64 3)]]]).next = K1.next + 3:=by rw [hx_next,Heap.next_set]; rfl
 have a2 : ∀ i b,([Blk.box false [.sc (.int .i64 70),.sc (.int .i64 1),.sc (.int .i64 3),.sc (.int .i64 0)],.row false 1 [[.sc (.int .i64 3)]],.row false 1 [[.sc (.int .i64 3)]]] : List Blk)[i]? = some b → (hx (K1.set rid (.box false [rdF lid,.sc (.int .i64 1),.sc (.slice none 0 0),.sc (.slice none 0 0),.sl (K1.next + 2) 0 1,.mp mid,.sc (.bool false)])) [.box false [.sc (.int .i64 70),.sc (.int .i64 1),.sc (.int .i64 3),.sc (.int .i64 0)],.row false 1 [[.sc (.int .i64 3)]],.row false 1 [[.sc (.int .i64 3)]]]).get (K1.next + i) = some b:=fun i b h => by
  have:=hx_get (K1.set rid (.box false [rdF lid,.sc (.int .i64 1),.sc (.slice none 0 0),.sc (.slice none 0 0),.sl (K1.next + 2) 0 1,.mp mid,.sc (.bool false)])) [.box false [.sc (.int .i64 70),.sc (.int .i64 1),.sc (.int .i64 3),.sc (.int .i64 0)],.row false 1 [[.sc (.int .i64 3)]],.row false 1 [[.sc (.int .i64 3)]]] i
  rw [Heap.next_set] at this
  rw [this]
  exact h
 have rr : (hx (K1.set rid (.box false [rdF lid,.sc (.int .i64 1),.sc (.slice none 0 0),.sc (.slice none 0 0),.sl (K1.next + 2) 0 1,.mp mid,.sc (.bool false)])) [.box false [.sc (.int .i64 70),.sc (.int .i64 1),.sc (.int .i64 3),.sc (.int .i64 0)],.row false 1 [[.sc (.int .i64 3)]],.row false 1 [[.sc (.int .i64 3)]]]).get rid = some (.box false [rdF lid,.sc (.int .i64 1),.sc (.slice none 0 0),.sc (.slice none 0 0),.sl (K1.next + 2) 0 1,.mp mid,.sc (.bool false)]):=get_old (Heap.get_set_self _ lr1) _
 have e2 : ∀ j,j < K1.next → j ≠ rid → (hx (K1.set rid (.box false [rdF lid,.sc (.int .i64 1),.sc (.slice none 0 0),.sc (.slice none 0 0),.sl (K1.next + 2) 0 1,.mp mid,.sc (.bool false)])) [.box false [.sc (.int .i64 70),.sc (.int .i64 1),.sc (.int .i64 3),.sc (.int .i64 0)],.row false 1 [[.sc (.int .i64 3)]],.row false 1 [[.sc (.int .i64 3)]]]).get j = K1.get j:=fun j hj hjr => by rw [hx_get_old _ _ _ (by rw [Heap.next_set]; exact hj),Heap.get_set_ne _ hjr]
 generalize hx (K1.set rid (.box false [rdF lid,.sc (.int .i64 1),.sc (.slice none 0 0),.sc (.slice none 0 0),.sl (K1.next + 2) 0 1,.mp mid,.sc (.bool false)])) [.box false [.sc (.int .i64 70),.sc (.int .i64 1),.sc (.int .i64 3),.sc (.int .i64 0)],.row false 1 [[.sc (.int .i64 3)]],.row false 1 [[.sc (.int .i64 3)]]] = K2 at *
 have hh:=a2 0 _ rfl
 have hi:=a2 2 _ rfl
 rw [Nat.add_zero] at hh
 have c2 : K2.get cid = some (curB (encB (P1.drop 8)) ((0 : Nat) : Int) false):=(e2 cid lc1 ncr).trans q1
 have bl : (P1.drop 8).length = 248:=by rw [List.length_drop,P1_len]
 obtain ⟨v0,v1,v2,v3⟩:=P1_vals
 refine o61 (a:=0) (w:=4) c2 (by decide) (by decide) (by rw [bl]; decide) (by rw [bl]; decide) (by rw [v0]; decide) (by rw [v0]; decide) fun K3 t1 t2 t3 => ?_
 rw [v0]
 have r3 : K3.get rid = _:=(t3 rid (by omega) ncr.symm).trans rr
 have h3 : K3.get K1.next = _:=(t3 K1.next (by omega) (by omega)).trans hh
 have i3 : K3.get (K1.next + 2) = _:=(t3 (K1.next + 2) (by omega) (by omega)).trans hi
 have nil : ∀ i a b,(AV.sc (.slice none 0 0)) ≠ .sl i a b:=fun _ _ _ h => by cases h
 rw [← hx_nil K3]
 simp only [↓vp,vz,Nat.reduceLT,Nat.reduceEqDiff,Nat.reduceLeDiff,Nat.reduceAdd,Nat.reduceSub,Nat.reduceMul,Int.reduceBEq,Int.reduceBNe,Int.reduceLT,Int.reduceLE,Int.reduceEq,reduceIte,reduceCtorEq,da,int,boolA,dr]
 refine l30 (bb:=P1.drop 8) (vals:=[5,6,9]) (m:=2) (held:=1) (by rw [bl]; decide) (by rw [bl]; decide) (fun k hk => ?_) rfl (rid:=rid) (hid:=K1.next) (cid:=cid) (fn:=rdF lid) (mp:=.mp mid) (I:=.sl (K1.next + 2) 0 1) (is:=[3]) (K1.next + 2) (fun i a b e => by injection e with e; omega) ⟨by omega,by omega,by omega⟩ ncr.symm (by omega) (by omega) K3 (.sc .nilIface) (.sc .nilIface) (fun f' K4 F H hc hn hk g0 g4 g5 => ?_) 3 0 K3 _ (.sc (.slice none 0 0)) (.sc (.slice none 0 0)) rfl ⟨r3,h3,t1,.inl ⟨rfl,rfl⟩,.inl ⟨rfl,rfl⟩,.inr ⟨K1.next + 2,rfl,i3⟩,fun i a b j c d e _ => absurd e (nil _ _ _),fun i a b j c d e _ => absurd e (nil _ _ _),fun i a b j c d e _ => absurd e (nil _ _ _)⟩ (by omega) (Nat.le_refl _) (fun _ _ _ _ => rfl) (fun i a b e => absurd e (nil _ _ _)) (fun i a b e => absurd e (nil _ _ _)) ?_ ?_ ?_ ?_ ?_
 ·match k,hk with
  | 0,_ => exact ⟨v1,(by decide : (0:Int) ≤ 5),(by decide : (5:Int) ≤ 4294967295)⟩
  | 1,_ => exact ⟨v2,(by decide : (0:Int) ≤ 6),(by decide : (6:Int) ≤ 4294967295)⟩
  | 2,_ => exact ⟨v3,(by decide : (0:Int) ≤ 9),(by decide : (9:Int) ≤ 4294967295)⟩
 rotate_left
 iterate 5 first | (focus (simp only [↓vp,vz,Nat.reduceLT,Nat.reduceEqDiff,Nat.reduceLeDiff,Nat.reduceAdd,Nat.reduceSub,Nat.reduceMul,Int.reduceBEq,Int.reduceBNe,Int.reduceLT,Int.reduceLE,Int.reduceEq,reduceIte,reduceCtorEq,da,int,boolA]; done)) | (focus (simp only [↓vp,vz,Nat.reduceLT,Nat.reduceEqDiff,Nat.reduceLeDiff,Nat.reduceAdd,Nat.reduceSub,Nat.reduceMul,Int.reduceBEq,Int.reduceBNe,Int.reduceLT,Int.reduceLE,Int.reduceEq,reduceIte,reduceCtorEq,da,int,boolA]; rfl))
 have yr4:=fun L => get_old hc.rd L
 have yh4:=fun L => get_old hc.hd L
 have lr4:=Heap.get_lt hc.rd
 have k62 : ∀ L Q,KW ftG (.fn (.func 62) [] []) [.ptr cid 0 0] (hx K4 L) Q ↔ Q (int 0) (hx K4 L):=fun L Q => o62 (cid:=cid) (get_old hc.cu L)
 have gs4 : ∀ L b,(hx K4 L).set rid b = hx (K4.set rid b) L:=fun L b => hx_set_old K4 L b rid lr4
 have same : K4.set rid (.box false [rdF lid,.sc (.int .i64 1),F,H,.sl (K1.next + 2) 0 1,.mp mid,.sc (.bool false)]) = K4:=by
  have:=hc.rd
  simp only [int,boolA] at this
  exact heapSetSame this
 simp only [int,boolA] at yr4 yh4 k62
 unfold c30R1
 simp only [↓vp,vz,Nat.reduceLT,Nat.reduceEqDiff,Nat.reduceLeDiff,Nat.reduceAdd,Nat.reduceSub,Nat.reduceMul,Int.reduceBEq,Int.reduceBNe,Int.reduceLT,Int.reduceLE,Int.reduceEq,reduceIte,reduceCtorEq,da,int,boolA,dr,g0,g4,g5,yr4,yh4,k62,gs4,same]
 rw [← hLP,AW_loop,hLP]
 unfold c30L2
 simp only [↓vp,vz,Nat.reduceLT,Nat.reduceEqDiff,Nat.reduceLeDiff,Nat.reduceAdd,Nat.reduceSub,Nat.reduceMul,Int.reduceBEq,Int.reduceBNe,Int.reduceLT,Int.reduceLE,Int.reduceEq,reduceIte,reduceCtorEq,da,int,boolA,dr]
 rw [rw0,hx_nil]
 refine ⟨rfl,hq K4 F H _ ⟨hc.rd,hc.f,hc.h,hc.i,hc.fh,hc.fi,hc.hi⟩ (by omega) fun j hj hjr hjm => ?_⟩
 have u1:=hk j (by omega) hjr (by omega)
 have u2:=t3 j (by omega) (by omega)
 have u3:=e2 j (by omega) hjr
 rw [u1,u2,u3]
 exact q3 j hj hjm
end Go.VI
namespace Go.VI
attribute [local congr] AW_congr OW_congr DW_congr NW_congr VW_congr GW_congr PW_congr KW_congr ite_congr' GV_congr CV_congr KF_congr
theorem row_frz {H : Heap} {id n : Nat} {fz : Bool} {rs : List (List AV)} (hg : H.get id = some (.row fz 1 rs)) (hl : n = rs.length) (k : Nat) : frz (k + 1) H (.sl id 0 n) = some (.lst rs,H.set id (.row true 1 rs)):=by
 rw [frz_sl,hg]
 subst hl
 show (if 0 + rs.length ≤ rs.length then some (AV.lst ((rs.drop 0).take rs.length),if fz = true then H else H.set id (.row true 1 rs)) else none) = _
 rw [if_pos (by omega),List.drop_zero,List.take_of_length_le (Nat.le_refl _)]
 cases fz with
 | false => rfl
 | true => rw [if_pos rfl,heapSetSame hg]
theorem kS32 {H : Heap} {id n : Nat} {fz : Bool} {l : List Int} (hg : H.get id = some (.row fz 1 (l.map numC))) (hn : n = l.length) (hl : l.length ≤ 1000000) {Q : AV → Heap → Prop} :
  KW ftG (.fn (.func 32) [] []) [.sl id 0 n] H Q ↔ Q (encR (ofM l)) (H.set id (.row true 1 (l.map numC))) :=
 kG_of rfl (as':=[encN l]) (by rw [frzCells_eq,frzL_cons,row_frz hg (by simpa using hn)]; rfl) rfl (callL_sub ftM_sub (s32 l hl Heap.empty))
theorem o33 {K : Heap} {lid rid iid : Nat} {F H mp : AV} {fz : Bool} (hl : K.get lid = some (.box false [encP [P1]])) (hr : K.get rid = some (.box false [rdF lid,int 1,F,H,.sl iid 0 1,mp,boolA false])) (hi : K.get iid = some (.row fz 1 [[int 3]])) {Q : AV → Heap → Prop}
  (hq : Q (boolA true) K) : KW ftG (.fn (.func 33) [] []) [.ptr rid 0 0,encP [P1]] K Q:=by
 have yr:=fun L => get_old hr L
 have yi:=fun L => get_old hi L
 have k25:=fun L Q => @o25 (hx K L) lid (get_old hl L) Q 3
 have k26:=fun L Q => @KW_of ftG _ _ _ Q _ _ (p26 P1 (args:=[encB P1,encB P1]) (H:=hx K L) rfl)
 have i0 : ∀ H,iaddrA H none 1 (encP [P1]) 0 = some (.pim [[encB P1]] 0 0):=fun _ => rfl
 have c0 : ∀ H off n,cellsAt H (.pim [[encB P1]] 0 off) n = if off + n ≤ 1 then some ((([encB P1] : List AV).drop off).take n) else none:=fun _ _ _ => rfl
 have ir : ∀ L,iaddrA (hx K L) none 1 (.sl iid 0 1) 0 = some (.ptr iid 0 0):=fun L => by
  have : rowSz (hx K L) iid = some 1:=by unfold rowSz; rw [yi L]
  show (if (0 : Int) ≤ 0 ∧ (0 : Int) < ((1 : Nat) : Int) ∧ rowSz (hx K L) iid = some 1 then _ else _) = _
  rw [if_pos ⟨by decide,by decide,this⟩]
  rfl
 have d0 : ((0 : Int) < ((1 : Nat) : Int)) = True:=by decide
 have d1 : ((1 : Int) < ((1 : Nat) : Int)) = False:=by decide
 have w1 : IntKind.i64.wrap (0 + 1) = 1:=by decide
 simp only [int,boolA] at yr yi k25 k26
 refine call_W rfl (by simp) ?_
 unfold c33 r33
 generalize hLP : ACode.loop c33L0 = LP
 simp only [↓vp,vz,Nat.reduceLT,Nat.reduceEqDiff,Nat.reduceLeDiff,Nat.reduceAdd,Nat.reduceSub,Nat.reduceMul,Int.reduceBEq,Int.reduceBNe,Int.reduceLT,Int.reduceLE,Int.reduceEq,reduceIte,reduceCtorEq,da,int,boolA,dr,yr]
 rw [← hLP,AW_loop,hLP]
 unfold c33L0
 simp only [↓vp,vz,Nat.reduceLT,Nat.reduceEqDiff,Nat.reduceLeDiff,Nat.reduceAdd,Nat.reduceSub,Nat.reduceMul,Int.reduceBEq,Int.reduceBNe,Int.reduceLT,Int.reduceLE,Int.reduceEq,reduceIte,reduceCtorEq,da,int,boolA,dr,yr,yi,ir,k25,k26,i0,c0,d0,w1]
 rw [← hLP,AW_loop,hLP]
 unfold c33L0 c33R1
 simp only [↓vp,vz,Nat.reduceLT,Nat.reduceEqDiff,Nat.reduceLeDiff,Nat.reduceAdd,Nat.reduceSub,Nat.reduceMul,Int.reduceBEq,Int.reduceBNe,Int.reduceLT,Int.reduceLE,Int.reduceEq,reduceIte,reduceCtorEq,da,int,boolA,dr,d1]
 rw [rw1,hx_nil]
 refine ⟨rfl,?_⟩
 simp only [↓vp,vz,Nat.reduceLT,Nat.reduceEqDiff,Nat.reduceLeDiff,Nat.reduceAdd,Nat.reduceSub,Nat.reduceMul,Int.reduceBEq,Int.reduceBNe,Int.reduceLT,Int.reduceLE,Int.reduceEq,reduceIte,reduceCtorEq,da,int,boolA]
 exact hq
theorem k9n {K : Heap} {Q : AV → Heap → Prop} : KW ftG (.fn (.func 9) [] []) [.sc .nilFunc,int 3] K Q ↔ Q (.tup [int 0,.agg [.sc (.slice none 0 0),.sc (.slice none 0 0)],.sc (.slice none 0 0),int 1]) (hx K [.box false [.sc (.slice none 0 0),.sc (.slice none 0 0)]]):=by
 refine KW_of (call_o rfl (by simp) ?_)
 unfold c9 r9 RetO
 have isn : isnilA 3 (.sc .nilFunc) = some true:=rfl
 simp only [↓vp,vz,Nat.reduceLT,Nat.reduceEqDiff,Nat.reduceLeDiff,Nat.reduceAdd,Nat.reduceSub,Nat.reduceMul,Int.reduceBEq,Int.reduceBNe,Int.reduceLT,Int.reduceLE,Int.reduceEq,reduceIte,reduceCtorEq,da,int,boolA,dr,isn,resultsA,resC,resT,resN]
theorem rep_sl {K : Heap} {S : AV} {x : List AV} {rows : List (List AV)} (h : Rep K 1 S (x :: rows)) : ∃ i,S = .sl i 0 (rows.length + 1) ∧ K.get i = some (.row false 1 (x :: rows)):=by
 rcases h with ⟨_,h⟩ | ⟨i,h1,h2⟩
 ·cases h
 ·exact ⟨i,h1,h2⟩
theorem o9 {K : Heap} {lid : Nat} (hl : K.get lid = some (.box false [encP [P1]])) {Q : AV → Heap → Prop} (hq : ∀ K' iid,K'.get iid = some (.row true 1 [[int 3]]) → K.next ≤ K'.next → (∀ j b,K.get j = some b → (∀ r,b ≠ .row false 1 r) → K'.get j = some b) → Q (.tup [int 1,.agg [encR AF,encR AH],.sl iid 0 1,int 0]) K') :
  KW ftG (.fn (.func 9) [] []) [rdF lid,int 3] K Q:=by
 have lid':=Heap.get_lt hl
 have yl:=fun L => get_old hl L
 have isn : isnilA 3 (rdF lid) = some false:=rfl
 have k25:=fun L Q => @o25 (hx K L) lid (get_old hl L) Q 3
 have k28':=fun K L Q => @k28 K L Q
 have k29':=fun K L Q => @k29 1 K L Q
 rw [show chainB 1 = true by decide] at k29'
 unfold hd1 at k28'
 simp only [int,boolA] at k25 k28' k29'
 refine call_W rfl (by simp) ?_
 unfold c9 r9
 have cl : (rdF lid).cells = [rdF lid]:=rfl
 have on : (rdF lid).one = true:=rfl
 simp only [↓vp,vz,Nat.reduceLT,Nat.reduceEqDiff,Nat.reduceLeDiff,Nat.reduceAdd,Nat.reduceSub,Nat.reduceMul,Int.reduceBEq,Int.reduceBNe,Int.reduceLT,Int.reduceLE,Int.reduceEq,reduceIte,reduceCtorEq,da,int,boolA,dr,isn,k25,k28',k29',cl,on]
 have g0:=hx_get K [.box false [.sc (.slice none 0 0),.sc (.slice none 0 0)],.box false [.sc (.int .i64 70),.sc (.int .i64 1),.sc (.int .i64 3),.sc (.int .i64 0)],.mpb (some .i64) [] [] 0,.box false [rdF lid,.sc (.int .i64 1),.sc (.slice none 0 0),.sc (.slice none 0 0),.sc (.slice none 0 0),.mp (K.next + 2),.sc (.bool false)]]
 have gl:=get_old hl [.box false [.sc (.slice none 0 0),.sc (.slice none 0 0)],.box false [.sc (.int .i64 70),.sc (.int .i64 1),.sc (.int .i64 3),.sc (.int .i64 0)],.mpb (some .i64) [] [] 0,.box false [rdF lid,.sc (.int .i64 1),.sc (.slice none 0 0),.sc (.slice none 0 0),.sc (.slice none 0 0),.mp (K.next + 2),.sc (.bool false)]]
 have n1 : (hx K [.box false [.sc (.slice none 0 0),.sc (.slice none 0 0)],.box false [.sc (.int .i64 70),.sc (.int .i64 1),.sc (.int .i64 3),.sc (.int .i64 0)],.mpb (some .i64) [] [] 0,.box false [rdF lid,.sc (.int .i64 1),.sc (.slice none 0 0),.sc (.slice none 0 0),.sc (.slice none 0 0),.mp (K.next + 2),.sc (.bool false)]]).next = K.next + 4:=hx_next _ _
 have o1 : ∀ j,j < K.next → (hx K [.box false [.sc (.slice none 0 0),.sc (.slice none 0 0)],.box false [.sc (.int .i64 70),.sc (.int .i64 1),.sc (.int .i64 3),.sc (.int .i64 0)],.mpb (some .i64) [] [] 0,.box false [rdF lid,.sc (.int .i64 1),.sc (.slice none 0 0),.sc (.slice none 0 0),.sc (.slice none 0 0),.mp (K.next + 2),.sc (.bool false)]]).get j = K.get j:=fun j hj => hx_get_old _ _ _ hj
 generalize hx K [.box false [.sc (.slice none 0 0),.sc (.slice none 0 0)],.box false [.sc (.int .i64 70),.sc (.int .i64 1),.sc (.int .i64 3),.sc (.int .i64 0)],.mpb (some .i64) [] [] 0,.box false [rdF lid,.sc (.int .i64 1),.sc (.slice none 0 0),.sc (.slice none 0 0),.sc (.slice none 0 0),.mp (K.next + 2),.sc (.bool false)]] = K1 at *
 have r5 : K1.get K.next = some (.box false [.sc (.slice none 0 0),.sc (.slice none 0 0)]):=g0 0
 have rr : K1.get (K.next + 3) = some (.box false [rdF lid,.sc (.int .i64 1),.sc (.slice none 0 0),.sc (.slice none 0 0),.sc (.slice none 0 0),.mp (K.next + 2),.sc (.bool false)]):=g0 3
 have rm : K1.get (K.next + 2) = some (.mpb (some .i64) [] [] 0):=g0 2
 refine o30 gl rr rm fun K4 F H I hc hn hk => ?_
 obtain ⟨hrd,hF,hH,hI,hFH,hFI,hHI⟩:=hc
 obtain ⟨f1,rfl,e1⟩:=rep_sl (x:=numC 5) (rows:=[numC 6]) hF
 obtain ⟨f2,rfl,e2⟩:=rep_sl (x:=numC 9) (rows:=[]) hH
 obtain ⟨f3,rfl,e3⟩:=rep_sl (x:=numC 3) (rows:=[]) hI
 have d12 : f1 ≠ f2:=hFH _ _ _ _ _ _ rfl rfl
 have d13 : f1 ≠ f3:=hFI _ _ _ _ _ _ rfl rfl
 have d23 : f2 ≠ f3:=hHI _ _ _ _ _ _ rfl rfl
 have u5 : K4.get K.next = some (.box false [.sc (.slice none 0 0),.sc (.slice none 0 0)]):=(hk K.next (by omega) (by omega) (by omega)).trans r5
 have ul : K4.get lid = some (.box false [encP [P1]]):=(hk lid (by omega) (by omega) (by omega)).trans gl
 have l1:=Heap.get_lt e1
 have l2:=Heap.get_lt e2
 have l3:=Heap.get_lt e3
 have old : ∀ j,j < K.next → K4.get j = K.get j:=fun j hj => (hk j (by omega) (by omega) (by omega)).trans (o1 j hj)
 have hn4 : K.next + 4 ≤ K4.next:=by omega
 have ne : ∀ j b,(∀ r,b ≠ .row false 1 r) → K4.get j = some b → j ≠ f1 ∧ j ≠ f2 ∧ j ≠ f3:=fun j b hb hj => ⟨fun e => by rw [e,e1] at hj; injection hj with hj; exact hb _ hj.symm,fun e => by rw [e,e2] at hj; injection hj with hj; exact hb _ hj.symm,fun e => by rw [e,e3] at hj; injection hj with hj; exact hb _ hj.symm⟩
 obtain ⟨a1,a2,a3⟩:=ne _ _ (fun r e => by cases e) hrd
 obtain ⟨b1,b2,b3⟩:=ne _ _ (fun r e => by cases e) u5
 obtain ⟨c1,c2,c3⟩:=ne _ _ (fun r e => by cases e) ul
 generalize e5 : K4.set f1 (.row true 1 [numC 5,numC 6]) = K5
 generalize e6 : K5.set f2 (.row true 1 [numC 9]) = K6
 generalize e7 : K6.set f3 (.row true 1 [numC 3]) = K7
 have m5 : K5.next = K4.next:=by rw [← e5,Heap.next_set]
 have m6 : K6.next = K4.next:=by rw [← e6,Heap.next_set,m5]
 have m7 : K7.next = K4.next:=by rw [← e7,Heap.next_set,m6]
 have t5 : ∀ j,j ≠ f1 → K5.get j = K4.get j:=fun j h => by rw [← e5,Heap.get_set_ne _ h]
 have t6 : ∀ j,j ≠ f2 → K6.get j = K5.get j:=fun j h => by rw [← e6,Heap.get_set_ne _ h]
 have t7 : ∀ j,j ≠ f3 → K7.get j = K6.get j:=fun j h => by rw [← e7,Heap.get_set_ne _ h]
 have j32 : ∀ L Q,KW ftG (.fn (.func 32) [] []) [.sl f1 0 2] (hx K4 L) Q ↔ Q (encR AF) (hx K5 L):=fun L Q => by
  have:=@kS32 (hx K4 L) f1 2 false [5,6] (get_old e1 L) rfl (by simp) Q
  rw [A_of.1,hx_set_old _ L _ f1 (by omega)] at this
  rw [← e5]
  exact this
 have j32' : ∀ L Q,KW ftG (.fn (.func 32) [] []) [.sl f2 0 1] (hx K5 L) Q ↔ Q (encR AH) (hx K6 L):=fun L Q => by
  have:=@kS32 (hx K5 L) f2 1 false [9] (get_old ((t5 f2 d12.symm).trans e2) L) rfl (by simp) Q
  rw [A_of.2,hx_set_old _ L _ f2 (by omega)] at this
  rw [← e6]
  exact this
 have w4:=fun L => get_old hrd L
 have w5:=fun L => get_old ((t5 _ a1).trans hrd) L
 have w6:=fun L => get_old ((t6 _ a2).trans ((t5 _ a1).trans hrd)) L
 have w7:=fun L => get_old ((t7 _ a3).trans ((t6 _ a2).trans ((t5 _ a1).trans hrd))) L
 have z6:=fun L => get_old ((t6 _ d23.symm).trans ((t5 _ d13.symm).trans e3)) L
 have z7 : ∀ L,(hx K7 L).get f3 = some (.row true 1 [numC 3]):=fun L => get_old (by rw [← e7,Heap.get_set_self _ (by omega)]) L
 have x7:=fun L => get_old ((t7 _ c3).trans ((t6 _ c2).trans ((t5 _ c1).trans ul))) L
 have f4 : ∀ L,frzCells (hx K6 L) [int 1,.agg [encR AF,encR AH],.sl f3 0 1] = some ([int 1,.agg [encR AF,encR AH],encN [3]],hx K7 L):=fun L => by
  have h3 : (hx K6 L).set f3 (.row true 1 [numC 3]) = hx K7 L:=by rw [← e7]; exact hx_set_old _ L _ f3 (by omega)
  have zi : ∀ H,frz 23 H (int 1) = some (int 1,H):=fun _ => rfl
  have za : ∀ H,frz 22 H (.agg [encR AF,encR AH]) = some (.agg [encR AF,encR AH],H):=fun _ => rfl
  rw [frzCells_eq,frzL_cons,zi,Option.bind_some,frzL_cons,za,Option.bind_some,frzL_cons,show frz 21 (AV.agg [encR AF,encR AH],(int 1,hx K6 L).snd).snd (AV.sl f3 0 1) = _ from row_frz (n:=1) (z6 L) rfl 20,h3]
  rfl
 have f7 : ∀ L,frzCells (hx K7 L) [int 1,.sl f3 0 1] = some ([int 1,encN [3]],hx K7 L):=fun L => by
  have zi : ∀ H,frz 23 H (int 1) = some (int 1,H):=fun _ => rfl
  rw [frzCells_eq,frzL_cons,zi,Option.bind_some,frzL_cons,show frz 22 (int 1,hx K7 L).snd (AV.sl f3 0 1) = _ from row_frz (n:=1) (z7 L) rfl 21,heapSetSame (z7 L)]
  rfl
 have k18:=fun L Q => @KW_of ftG _ _ _ Q _ _ (p18 AF AH [3] (by simp [AF]) (by simp [AH]) (by simp) (f4 L))
 rw [A_right,A_need,A_places,alive_pages] at k18
 have k20:=fun L Q => @KW_of ftG _ _ _ Q _ _ (p20 1 [3] (by simp) (f7 L))
 rw [show firstM 1 [3] = 3 from rfl] at k20
 have k33 : ∀ L Q,Q (boolA true) (hx K7 L) → KW ftG (.fn (.func 33) [] []) [.ptr (K.next + 3) 0 0,encP [P1]] (hx K7 L) Q:=fun L Q h => o33 (x7 L) (w7 L) (z7 L) h
 simp only [Bool.and_self,if_true,int,boolA] at k18 k20 k33 w4 w5 w6 w7
 change ∀ L,(hx K4 L).get (K.next + 3) = some (Blk.box false [rdF lid,_,.sl f1 0 2,.sl f2 0 1,.sl f3 0 1,_,_]) at w4
 change ∀ L,(hx K5 L).get (K.next + 3) = some (Blk.box false [rdF lid,_,.sl f1 0 2,.sl f2 0 1,.sl f3 0 1,_,_]) at w5
 change ∀ L,(hx K6 L).get (K.next + 3) = some (Blk.box false [rdF lid,_,.sl f1 0 2,.sl f2 0 1,.sl f3 0 1,_,_]) at w6
 change ∀ L,(hx K7 L).get (K.next + 3) = some (Blk.box false [rdF lid,_,.sl f1 0 2,.sl f2 0 1,.sl f3 0 1,_,_]) at w7
 have v1 : ∀ i n,pureV ftG (.fn (.func 32) [] []) [.sl i 0 n] = some (true,[i]):=fun _ _ => rfl
 rw [← hx_nil K4]
 simp only [↓vp,vz,Nat.reduceLT,Nat.reduceEqDiff,Nat.reduceLeDiff,Nat.reduceAdd,Nat.reduceSub,Nat.reduceMul,Int.reduceBEq,Int.reduceBNe,Int.reduceLT,Int.reduceLE,Int.reduceEq,reduceIte,reduceCtorEq,da,int,boolA,dr,w4,w5,w6,w7,j32,j32',k18,k20,v1,m6,m7]
 refine ⟨by rw [compat_ne a1.symm,compat_ne (show K.next + 3 ≠ K4.next by omega),compat_ne (show f1 ≠ K4.next by omega),compat_ne (show f2 ≠ K4.next by omega)]; rfl,k33 _ _ ?_⟩
 have y5:=fun L => get_old ((t7 _ b3).trans ((t6 _ b2).trans ((t5 _ b1).trans u5))) L
 have cn : compat (.loc false [K.next + 3]) (.loc true [K.next]) = true:=compat_ne (by omega)
 have gs : ∀ L b,(hx K7 L).set K.next b = hx (K7.set K.next b) L:=fun L b => hx_set_old K7 L b _ (by omega)
 have sd : sids [encR AF,encR AH] = some []:=rfl
 simp only [↓vp,vz,Nat.reduceLT,Nat.reduceEqDiff,Nat.reduceLeDiff,Nat.reduceAdd,Nat.reduceSub,Nat.reduceMul,Int.reduceBEq,Int.reduceBNe,Int.reduceLT,Int.reduceLE,Int.reduceEq,reduceIte,reduceCtorEq,da,int,boolA,dr,w7,y5,m7,cn,gs,sd]
 have ys : ∀ L,(hx (K7.set K.next (.box false [encR AF,encR AH])) L).get K.next = some (.box false [encR AF,encR AH]):=fun L => get_old (Heap.get_set_self _ (by omega)) L
 unfold RetW resultsA
 refine ⟨rfl,?_⟩
 simp only [↓vp,vz,Nat.reduceLT,Nat.reduceEqDiff,Nat.reduceLeDiff,Nat.reduceAdd,Nat.reduceSub,Nat.reduceMul,Int.reduceBEq,Int.reduceBNe,Int.reduceLT,Int.reduceLE,Int.reduceEq,reduceIte,reduceCtorEq,da,int,boolA,dr,resC,resT,resN,ys]
 refine ⟨_,rfl,hq _ f3 ?_ ?_ fun j b hj hb => ?_⟩
 ·rw [hx_get_old _ _ _ (by rw [Heap.next_set]; omega),Heap.get_set_ne _ b3.symm]
  have:=z7 []
  rwa [hx_nil] at this
 ·rw [hx_next,Heap.next_set]; omega
 ·have lj:=Heap.get_lt hj
  have h4:=(old j lj).trans hj
  obtain ⟨p1,p2,p3⟩:=ne j b hb h4
  rw [hx_get_old _ _ _ (by rw [Heap.next_set]; omega),Heap.get_set_ne _ (by omega),t7 _ p3,t6 _ p2,t5 _ p1,h4]
end Go.VI
namespace Go.VI
attribute [local congr] AW_congr OW_congr DW_congr NW_congr VW_congr GW_congr PW_congr KW_congr ite_congr' GV_congr CV_congr KF_congr
theorem AW_sub {ft ft' : FT} (hs : Sub ft ft') {c : ACode} {e : Env} {H : Heap} {Q : AExit → Env → Heap → Prop} (h : AW ft c e H Q) : AW ft' c e H Q:=by
 obtain ⟨x,e',H',h,hq⟩:=h
 obtain ⟨n,hn⟩:=execL_some.1 h
 exact ⟨x,e',H',execL_some.2 ⟨n,exec_sub hs n _ _ _ _ hn⟩,hq⟩
noncomputable def ftG8 : FT
 | 8 => some (.go true 97 r8 c8)
 | k => ftG k
theorem ftG8_sub : Sub ftG ftG8:=by
 intro k d h
 unfold ftG8
 split
 ·exact absurd h (by unfold ftG ft; simp)
 ·exact h
theorem row_frz2 {H : Heap} {id n sz : Nat} {fz : Bool} {rs : List (List AV)} (hg : H.get id = some (.row fz sz rs)) (hl : n = rs.length) (k : Nat) : frz (k + 1) H (.sl id 0 n) = some (.lst rs,H.set id (.row true sz rs)):=by
 rw [frz_sl,hg]
 subst hl
 show (if 0 + rs.length ≤ rs.length then some (AV.lst ((rs.drop 0).take rs.length),if fz = true then H else H.set id (.row true sz rs)) else none) = _
 rw [if_pos (by omega),List.drop_zero,List.take_of_length_le (Nat.le_refl _)]
 cases fz with
 | false => rfl
 | true => rw [if_pos rfl,heapSetSame hg]
theorem frz_st {H : Heap} {i j n m : Nat} {a b : List (List AV)} (h1 : H.get i = some (.row true 2 a)) (h2 : H.get j = some (.row true 2 b)) (hn : n = a.length) (hm : m = b.length) (k : Nat) : frz (k + 4) H (.agg [.sl i 0 n,.sl j 0 m]) = some (.agg [.lst a,.lst b],H):=by
 rw [frz_agg,frzL_cons,row_frz2 h1 hn,heapSetSame h1,Option.bind_some,frzL_cons,row_frz2 h2 hm,heapSetSame h2]
 rfl
theorem c8_body : AW ftG c8 (mkE 97 (ofL [])) (hx Heap.empty []) (RetP r8 (boolA true)):=by
 unfold c8 r8
 have k18:=fun Q => @KW_of ftG _ _ _ Q _ _ (p18 AF AH [3] (args:=[int 1,.agg [.sl 0 0 1,.sl 1 0 1],.sl 3 0 1]) (by simp [AF]) (by simp [AH]) (by simp)
  (H:=hx Heap.empty [.row false 2 [[int 5,int 2]],.row false 2 [[int 9,int 1]],.box false [.sl 0 0 1,.sl 1 0 1],.row false 1 [[int 3]]])
  (H1:=hx Heap.empty [.row true 2 [[int 5,int 2]],.row true 2 [[int 9,int 1]],.box false [.sl 0 0 1,.sl 1 0 1],.row true 1 [[int 3]]]) rfl)
 rw [A_right,A_need,A_places,alive_pages] at k18
 have k11n:=fun K L Q => @KW_of ftG _ _ _ Q _ _ (call_frz (ft:=ftG) (k:=11) (args:=[.agg [.sc (.slice none 0 0),.sc (.slice none 0 0)],.agg [.sc (.slice none 0 0),.sc (.slice none 0 0)]]) (as':=[.agg [encR [],encR []],.agg [encR [],encR []]]) (H:=hx K L) rfl rfl rfl (s11 [] [] [] [] (by simp) (by simp) (hx K L)))
 rw [show sameM [] [] = true by decide] at k11n
 have sl : ∀ H,sliceA H 1 (encB P1) none (some 24) none = some (encB (P1.take 24)):=fun H => by
  show (boundsA (P1.map byteC).length none (some 24) none).bind (fun p => if p.1 = 0 ∨ allSz 1 (P1.map byteC) = true then some (AV.lst (((P1.map byteC).drop p.1).take (p.2 - p.1))) else none) = _
  rw [List.length_map,P1_len,show boundsA 256 none (some 24) none = some (0,24) by decide]
  simp [encB,List.map_take]
 rw [P1_24] at sl
 have i0 : ∀ H,iaddrA H none 1 (encP [P1]) 0 = some (.pim [[encB P1]] 0 0):=fun _ => rfl
 have c0 : ∀ H off n,cellsAt H (.pim [[encB P1]] 0 off) n = if off + n ≤ 1 then some ((([encB P1] : List AV).drop off).take n) else none:=fun _ _ _ => rfl
 have lP : ∀ H,lenV H 0 (encP [P1]) = some (.sc (.int .i64 1),H):=fun _ => rfl
 have ln : ∀ H,lenV H 0 (encB P1) = some (.sc (.int .i64 256),H):=fun H => by
  have:=P1_len
  simp [lenV,lenOfA,encB,this]
 have oP : (encP [P1]).one = true:=rfl
 have cP : (encP [P1]).cells = [encP [P1]]:=rfl
 have fP : ∀ n H,frz (n + 1) H (encP [P1]) = some (encP [P1],H):=fun _ _ => rfl
 simp only [AF,AH,encR,List.map_cons,List.map_nil,runC,encN,numC,int,boolA,Bool.and_self,if_true] at k18 k11n
 simp only [↓vp,vz,Nat.reduceLT,Nat.reduceEqDiff,Nat.reduceLeDiff,Nat.reduceAdd,Nat.reduceSub,Nat.reduceMul,Int.reduceBEq,Int.reduceBNe,Int.reduceLT,Int.reduceLE,Int.reduceEq,reduceIte,reduceCtorEq,da,int,boolA,dr,k18,i0,c0,lP,ln,cP,oP]
 refine o9 (lid:=4) ?_ fun K1 iid q1 q2 q3 => ?_
 ·rfl
 have g2 : K1.get 2 = some (.box false [.sl 0 0 1,.sl 1 0 1]):=q3 2 _ rfl (fun r e => by cases e)
 have g4 : K1.get 4 = some (.box false [encP [P1]]):=q3 4 _ rfl (fun r e => by cases e)
 have g0 : K1.get 0 = some (.row true 2 [[int 5,int 2]]):=q3 0 _ rfl (fun r e => by cases e)
 have g1 : K1.get 1 = some (.row true 2 [[int 9,int 1]]):=q3 1 _ rfl (fun r e => by cases e)
 have y0:=fun L => get_old g0 L
 have y1:=fun L => get_old g1 L
 have y2:=fun L => get_old g2 L
 have y4:=fun L => get_old g4 L
 have yi:=fun L => get_old q1 L
 have q20 : ∀ L,frz 23 (hx K1 L) (.agg [.sl 0 0 1,.sl 1 0 1]) = some (.agg [encR AF,encR AH],hx K1 L):=fun L => frz_st (y0 L) (y1 L) rfl rfl 19
 have q21 : ∀ L,frz 22 (hx K1 L) (.agg [.sl 0 0 1,.sl 1 0 1]) = some (.agg [encR AF,encR AH],hx K1 L):=fun L => frz_st (y0 L) (y1 L) rfl rfl 18
 have k11:=fun L Q => @KW_of ftG _ _ _ Q _ _ (call_frz (ft:=ftG) (k:=11) (args:=[.agg [.sl 0 0 1,.sl 1 0 1],.agg [encR AF,encR AH]]) (as':=[.agg [encR AF,encR AH],.agg [encR AF,encR AH]]) (H:=hx K1 L) rfl (by rw [frzCells_eq,frzL_cons,q20]; rfl) rfl (s11 AF AH AF AH (by simp [AF]) (by simp [AH]) (hx K1 L)))
 have k27':=fun L Q => @KW_of ftG _ _ _ Q _ _ (call_frz (ft:=ftG) (k:=27) (args:=[.agg [.sl 0 0 1,.sl 1 0 1]]) (as':=[.agg [encR AF,encR AH]]) (H:=hx K1 L) rfl (by rw [frzCells_eq,frzL_cons,q20]; rfl) rfl (s27 AF AH (by simp [AF]) (by simp [AH]) (hx K1 L)))
 have k16:=fun L Q => @KW_of ftG _ _ _ Q _ _ (call_frz (ft:=ftG) (k:=16) (args:=[int 3,.agg [.sl 0 0 1,.sl 1 0 1]]) (as':=[int 3,.agg [encR AF,encR AH]]) (H:=hx K1 L) rfl (by rw [frzCells_eq,frzL_cons,show ∀ n H,frz (n + 1) H (int 3) = some (int 3,H) from fun _ _ => rfl,Option.bind_some,frzL_cons,q21]; rfl) rfl (s16 3 AF AH (by simp [AF]) (by simp [AH]) (fun _ => by decide) (hx K1 L)))
 rw [A_right] at k27'
 rw [A_need3] at k16
 rw [show sameM AF AF = true by decide,show sameM AH AH = true by decide] at k11
 have b1 : (((1 : Nat) : Int) == 1) = true:=rfl
 have on : ∀ e,optI e none = some none:=fun _ => rfl
 have o24 : ∀ e,optI e (some (.const (.int .i64 24))) = some (some 24):=fun _ => rfl
 have k26 : ∀ b0 b1 b2 Q,KW ftG (.fn (.func 26) [] []) [encB [70,1,3,0,0,0,0,0,1,0,0,0,5,0,0,0,6,0,0,0,9,0,0,0],.sl (K1.next + 3) 0 24] (hx K1 [b0,b1,b2,.row false 1 (([70,1,3,0,0,0,0,0,1,0,0,0,5,0,0,0,6,0,0,0,9,0,0,0] : List Int).map byteC)]) Q ↔ Q (boolA true) (hx K1 [b0,b1,b2,.row true 1 (([70,1,3,0,0,0,0,0,1,0,0,0,5,0,0,0,6,0,0,0,9,0,0,0] : List Int).map byteC)]):=fun b0 b1 b2 Q => by
  refine KW_of (p26 [70,1,3,0,0,0,0,0,1,0,0,0,5,0,0,0,6,0,0,0,9,0,0,0] ?_)
  have g:=hx_get K1 [b0,b1,b2,.row false 1 (([70,1,3,0,0,0,0,0,1,0,0,0,5,0,0,0,6,0,0,0,9,0,0,0] : List Int).map byteC)] 3
  have h:=hx_set K1 [b0,b1,b2,.row false 1 (([70,1,3,0,0,0,0,0,1,0,0,0,5,0,0,0,6,0,0,0,9,0,0,0] : List Int).map byteC)] (.row true 1 (([70,1,3,0,0,0,0,0,1,0,0,0,5,0,0,0,6,0,0,0,9,0,0,0] : List Int).map byteC)) 3
  rw [frzCells_eq,frzL_cons,show ∀ n H l,frz (n + 1) H (encB l) = some (encB l,H) from fun _ _ _ => rfl,Option.bind_some,frzL_cons]
  simp only []
  rw [row_frz2 (n:=24) g rfl,h]
  rfl
 have k20 : ∀ b0 b1 b2 b3 Q,KW ftG (.fn (.func 20) [] []) [int 3,.sl (K1.next + 4) 0 2] (hx K1 [b0,b1,b2,b3,.row false 1 [[int 4],[int 7]]]) Q ↔ Q (int 7) (hx K1 [b0,b1,b2,b3,.row true 1 [[int 4],[int 7]]]):=fun b0 b1 b2 b3 Q => by
  refine KW_of (p20 3 [4,7] (by simp) ?_)
  have g:=hx_get K1 [b0,b1,b2,b3,.row false 1 [[int 4],[int 7]]] 4
  have h:=hx_set K1 [b0,b1,b2,b3,.row false 1 [[int 4],[int 7]]] (.row true 1 [[int 4],[int 7]]) 4
  rw [frzCells_eq,frzL_cons,show ∀ n H,frz (n + 1) H (int 3) = some (int 3,H) from fun _ _ => rfl,Option.bind_some,frzL_cons]
  simp only []
  rw [row_frz2 (n:=2) g rfl,h]
  rfl
 simp only [byteC,List.map_cons,List.map_nil,int,boolA] at k26 k20 k11 k27' k16
 have k9':=fun L Q => @k9n (hx K1 L) Q
 simp only [int] at k9'
 rw [← hx_nil K1]
 simp only [↓vp,vz,Nat.reduceLT,Nat.reduceEqDiff,Nat.reduceLeDiff,Nat.reduceAdd,Nat.reduceSub,Nat.reduceMul,Int.reduceBEq,Int.reduceBNe,Int.reduceLT,Int.reduceLE,Int.reduceEq,reduceIte,reduceCtorEq,da,int,boolA,dr,k9',i0,c0,lP,ln,y2,y4,sl,cP,oP,hx_hx,on,o24,k26,k11,k11n,k27',k16,k20,b1]
 simp only [↓vp,vz,Nat.reduceLT,Nat.reduceEqDiff,Nat.reduceLeDiff,Nat.reduceAdd,Nat.reduceSub,Nat.reduceMul,Int.reduceBEq,Int.reduceBNe,Int.reduceLT,Int.reduceLE,Int.reduceEq,reduceIte,reduceCtorEq,da,int,boolA,rt]
theorem s8 (H : Heap) : callL ftG8 (.fn (.func 8) [] []) [] H = some (boolA true,H):=call_p (as':=[]) rfl rfl (by simp) (AW_sub ftG8_sub c8_body)
end Go.VI
namespace Go.Proofs
open Go.Shelf
def Tryz.sortRun_ren : Go.Shelf.Ren:=⟨fun | 6 => 99 | 15 => 124 | 14 => 123 | 28 => 139 | 29 => 140 | 20 => 131 | 21 => 132 | 22 => 133 | 23 => 134 | 24 => 135 | 25 => 136 | 26 => 137 | 27 => 138 | 46 => 153 | 47 => 154 | 48 => 155 | 49 => 156 | 50 => 157 | 57 => 162 | n => n,fun | 22 => 25 | 24 => 60 | 25 => 143 | 3 => 3 | 39 => 151 | 0 => 0 | 53 => 176 | 55 => 146 | 4 => 4 | 46 => 182 | 45 => 181 | 50 => 186 | 5 => 5 | 9 => 9 | 66 => 198 | 70 => 202 | 76 => 208 | 77 => 209 | n => n,fun | n => n⟩
theorem Tryz.sortRun : Go.Proofs.SlLaysF0.n6 Tryz.prog Tryz.sortRun_ren:={
 mixed:=by kernel_rfl
 f6:=⟨Tryz.f99.name,by decide,Tryz.func99.trans (congrArg some (by kernel_rfl))⟩
 f14:=⟨Tryz.f123.name,by decide,Tryz.func123.trans (congrArg some (by kernel_rfl))⟩
 f15:=Tryz.func124.trans (congrArg some (by kernel_rfl))
 f20:=⟨Tryz.f131.name,by decide,Tryz.func131.trans (congrArg some (by kernel_rfl))⟩
 f21:=⟨Tryz.f132.name,by decide,Tryz.func132.trans (congrArg some (by kernel_rfl))⟩
 f22:=⟨Tryz.f133.name,by decide,Tryz.func133.trans (congrArg some (by kernel_rfl))⟩
 f23:=⟨Tryz.f134.name,by decide,Tryz.func134.trans (congrArg some (by kernel_rfl))⟩
 f24:=⟨Tryz.f135.name,by decide,Tryz.func135.trans (congrArg some (by kernel_rfl))⟩
 f25:=⟨Tryz.f136.name,by decide,Tryz.func136.trans (congrArg some (by kernel_rfl))⟩
 f26:=⟨Tryz.f137.name,by decide,Tryz.func137.trans (congrArg some (by kernel_rfl))⟩
 f27:=⟨Tryz.f138.name,by decide,Tryz.func138.trans (congrArg some (by kernel_rfl))⟩
 f28:=Tryz.func139.trans (congrArg some (by kernel_rfl))
 f29:=Tryz.func140.trans (congrArg some (by kernel_rfl))
 f46:=⟨Tryz.f153.name,by decide,Tryz.func153.trans (congrArg some (by kernel_rfl))⟩
 f47:=Tryz.func154.trans (congrArg some (by kernel_rfl))
 f48:=Tryz.func155.trans (congrArg some (by kernel_rfl))
 f49:=⟨Tryz.f156.name,by decide,Tryz.func156.trans (congrArg some (by kernel_rfl))⟩
 f50:=⟨Tryz.f157.name,by decide,Tryz.func157.trans (congrArg some (by kernel_rfl))⟩
 f57:=⟨Tryz.f162.name,by decide,Tryz.func162.trans (congrArg some (by kernel_rfl))⟩
 t0:=Tryz.underlying0
 a0:=Tryz.isAgg0
 z0:=Tryz.sizeOf0
 v0:=Tryz.zeroValue0
 t3:=Tryz.underlying3
 a3:=Tryz.isAgg3
 z3:=Tryz.sizeOf3
 v3:=Tryz.zeroValue3
 t4:=Tryz.underlying4
 a4:=Tryz.isAgg4
 z4:=Tryz.sizeOf4
 v4:=Tryz.zeroValue4
 t5:=Tryz.underlying5
 a5:=Tryz.isAgg5
 z5:=Tryz.sizeOf5
 v5:=Tryz.zeroValue5
 t9:=Tryz.underlying9
 a9:=Tryz.isAgg9
 z9:=Tryz.sizeOf9
 v9:=Tryz.zeroValue9
 t22:=Tryz.underlying25
 a22:=Tryz.isAgg25
 z22:=Tryz.sizeOf25
 v22:=Tryz.zeroValue25
 t25:=Tryz.underlying143
 a25:=Tryz.isAgg143
 z25:=Tryz.sizeOf143
 v25:=Tryz.zeroValue143
 t39:=Tryz.underlying151
 a39:=Tryz.isAgg151
 z39:=Tryz.sizeOf151
 v39:=Tryz.zeroValue151
 t45:=Tryz.underlying181
 a45:=Tryz.isAgg181
 z45:=Tryz.sizeOf181
 v45:=Tryz.zeroValue181
 t46:=Tryz.underlying182
 a46:=Tryz.isAgg182
 z46:=Tryz.sizeOf182
 v46:=Tryz.zeroValue182
 t50:=Tryz.underlying186
 a50:=Tryz.isAgg186
 z50:=Tryz.sizeOf186
 v50:=Tryz.zeroValue186
 t53:=Tryz.underlying176
 a53:=Tryz.isAgg176
 z53:=Tryz.sizeOf176
 v53:=Tryz.zeroValue176
 t55:=Tryz.underlying146
 a55:=Tryz.isAgg146
 z55:=Tryz.sizeOf146
 v55:=Tryz.zeroValue146
 t66:=Tryz.underlying198
 a66:=Tryz.isAgg198
 z66:=Tryz.sizeOf198
 v66:=Tryz.zeroValue198
 t70:=Tryz.underlying202
 a70:=Tryz.isAgg202
 z70:=Tryz.sizeOf202
 v70:=Tryz.zeroValue202
 t76:=Tryz.underlying208
 a76:=Tryz.isAgg208
 z76:=Tryz.sizeOf208
 v76:=Tryz.zeroValue208
 t77:=Tryz.underlying209
 a77:=Tryz.isAgg209
 z77:=Tryz.sizeOf209
 v77:=Tryz.zeroValue209 }
end Go.Proofs
namespace Go.VI
open Go.Sort Go.Proofs
def srE (x : SR) : List Value:=[.int .i64 x.1.1,.int .i64 x.1.2]
theorem srE_len (x : SR) : (srE x).length = 2:=rfl
theorem srE_one (x : SR) : ∀ v ∈ srE x,v.oneCell' = true:=by
 intro v hv
 simp [srE] at hv
 rcases hv with rfl | rfl <;> rfl
theorem srE_get (x : SR) (j : Nat) (h : j < 2) : (srE x)[j]! = (srE x).getD j undef:=by
 match j,h with
 | 0,_ => rfl
 | 1,_ => rfl
theorem srC_get (x : SR) (j : Nat) (c : AV) (h : (srC x)[j]? = some c) : j < 2 ∧ c = .sc ((srE x).getD j undef) ∧ isSc ((srE x).getD j undef) = true:=by
 match j with
 | 0 => simp [srC] at h; exact ⟨by omega,h.symm,rfl⟩
 | 1 => simp [srC] at h; exact ⟨by omega,h.symm,rfl⟩
 | j + 2 => simp [srC] at h
theorem putCells_get {β : Type} [Inhabited β] (enc : β → Value) (off : Nat) (d : Array β) (c : Array Value) (k : Nat) (hk : k < c.size) : (putCells enc off d c).getD k undef = if off ≤ k ∧ k < off + d.size then enc d[k - off]! else c.getD k undef:=by
 unfold putCells
 rw [Array.getD_eq_getD_getElem?,Array.getElem?_mapIdx,Array.getElem?_eq_getElem hk,Option.map_some,Option.getD_some,Array.getD_eq_getD_getElem?,Array.getElem?_eq_getElem hk,Option.getD_some]
theorem heap_map_ne (w : World) (blk : Nat) (f : Array Value → Array Value) (b : Nat) (h : b ≠ blk) : (mapBlock w blk f).heap[b]? = w.heap[b]?:=by
 simp only [mapBlock,Array.getElem?_modify]
 rw [if_neg (Ne.symm h)]
theorem heap_map_at (w : World) (blk : Nat) (f : Array Value → Array Value) (c : Array Value) (t : TypeId) (fr : Nat × Nat) (h : w.heap[blk]? = some (.cells c t fr)) : (mapBlock w blk f).heap[blk]? = some (.cells (f c) t fr):=by
 simp only [mapBlock,Array.getElem?_modify]
 rw [if_true,h]
 rfl
section
variable {P : Program}
theorem sorted_inv {m : Mp} {F : Fz} {H : Heap} {w : World} (hI : Inv P m F H w) {id : Nat} {mb : MB} (hm : m id = some mb) {l l' : List SR} (hg : H.get id = some (.row false 2 (l.map srC))) (hl : l'.length = l.length) (n : Nat) (os : Array Obj) :
  Inv P m F (H.set id (.row false 2 (l'.map srC))) (sortWorldK srE 2 w mb.cb mb.base n l'.toArray os) ∧ Ext m F w m F (sortWorldK srE 2 w mb.cb mb.base n l'.toArray os):=by
 obtain ⟨vs,hcb,hsz,hcn,hfit,hrl,hrc,hF,_,hfull⟩:=hI.blk id mb _ hm hg
 obtain ⟨⟨rsF,f1,f2,f3⟩,hum⟩:=hfull rfl
 have hF:=hF rfl
 have hblk:=hcb.lt
 rw [List.length_map] at hcn f2
 obtain ⟨t,fr,hb0,hfr⟩:=hcb
 let fl:=flatK srE 2 l'.toArray
 have hfls : fl.size = l.length * 2:=by simp [fl,hl]
 let vs':=putCells _root_.id mb.base fl vs
 have hvs' : vs'.size = vs.size:=by simp [vs',putCells]
 generalize hw' : sortWorldK srE 2 w mb.cb mb.base n l'.toArray os = w'
 have hne : ∀ b,b < w.heap.size → b ≠ mb.cb → w'.heap[b]? = w.heap[b]?:=fun b h1 h2 => by
  rw [← hw']
  unfold sortWorldK putRowK putRow
  rw [heap_grow_old _ _ (by simp [mapBlock]; exact h1),heap_map_ne _ _ _ _ h2]
  rfl
 have hat : w'.heap[mb.cb]? = some (.cells vs' t fr):=by
  rw [← hw']
  unfold sortWorldK putRowK putRow
  rw [heap_grow_old _ _ (by simp [mapBlock]; exact hblk)]
  exact heap_map_at (Go.Sort.ahead w n) _ _ _ _ _ hb0
 have hsize : w.heap.size ≤ w'.heap.size:=by
  rw [← hw']
  exact size_sortWorldK_c srE 2 w mb.cb mb.base n l'.toArray os
 have hcb' : CB w' mb.cb vs':=⟨t,fr,hat,by rw [hvs']; exact hfr⟩
 have hl2 : l.length * 2 ≤ mb.cn * 2:=Nat.mul_le_mul_right _ hcn
 have hcell : ∀ (i : Nat) (x : SR) (j : Nat) (c : AV),l'[i]? = some x → (srC x)[j]? = some c → c.one = true ∧ VF F c (vs'.getD (mb.base + i * 2 + j) undef):=fun i x j c hx hc => by
  obtain ⟨hj,rfl,hs⟩:=srC_get x j c hc
  have hi:=(List.getElem?_eq_some_iff.1 hx).1
  refine ⟨rfl,?_⟩
  have hk : mb.base + i * 2 + j < vs.size:=by omega
  have : vs'.getD (mb.base + i * 2 + j) undef = (srE x).getD j undef:=by
   show (putCells _root_.id mb.base fl vs).getD _ undef = _
   rw [putCells_get _ _ _ _ _ hk,if_pos (by omega),show mb.base + i * 2 + j - mb.base = i * 2 + j by omega]
   show (flatK srE 2 l'.toArray)[i * 2 + j]! = _
   rw [get_flatK _ _ _ _ (by simp; omega),show (i * 2 + j) / 2 = i by omega,show (i * 2 + j) % 2 = j by omega]
   have : l'.toArray[i]! = x:=by
    rw [getElem!_pos _ i (by simpa using hi)]
    have:=List.getElem?_eq_getElem hi
    rw [hx] at this
    simpa using (Option.some.inj this).symm
   rw [this,srE_get _ _ hj]
  rw [this]
  exact .sc hs
 have hwell : w'.tape = w.tape ∧ w'.os = w.os ∧ w'.output = w.output:=by
  rw [← hw']
  exact ⟨rfl,rfl,rfl⟩
 refine ⟨hI.next (MLe.refl m) (FLe.refl F) (fun b o v hv => ?_) (fun j mj hj => ?_) (fun j mj B hj hB => ?_) (fun i j mi mj hi hj li lj e => hI.inj i j mi mj hi hj (live_set li (.inl (live_of hg (by simp)))) (live_set lj (.inl (live_of hg (by simp)))) e),?_⟩
 ·have : b ≠ mb.cb:=fun e => by rw [e,hF o] at hv; cases hv
  rw [cell_of_heap (hne b (hI.fz_lt hv) this)]
  exact hI.fz b o v hv
 ·have:=hI.lt j mj hj
  simp only [Heap.next_set]
  exact ⟨this.1,by omega⟩
 ·by_cases e : j = id
  ·subst e
   rw [Heap.get_set_self _ (hI.lt _ _ hm).1] at hB
   cases hB
   rw [hm] at hj
   cases hj
   refine .inr ⟨vs',hcb',hsz,by simpa [hl] using hcn,by rw [hvs']; exact hfit,fun i r hr => ?_,fun i r j c hr hc => ?_,fun _ => hF,by simp,fun _ => ⟨⟨l'.map srC ++ rsF.drop l.length,?_,?_,?_,?_⟩,fun _ => ?_⟩⟩
   ·rw [List.getElem?_map,Option.map_eq_some_iff] at hr
    obtain ⟨x,_,rfl⟩:=hr
    rfl
   ·rw [List.getElem?_map,Option.map_eq_some_iff] at hr
    obtain ⟨x,hx,rfl⟩:=hr
    exact hcell i x j c hx hc
   ·simp; omega
   ·rw [List.take_left]
   ·intro i r hr
    rw [hsz]
    rcases Nat.lt_or_ge i l.length with h1 | h1
    ·rw [List.getElem?_append_left (by simpa [hl] using h1),List.getElem?_map,Option.map_eq_some_iff] at hr
     obtain ⟨x,_,rfl⟩:=hr
     rfl
    ·rw [List.getElem?_append_right (by simpa [hl] using h1),List.getElem?_drop] at hr
     rw [← hsz]
     exact f3.len _ r hr
   ·intro i r j c hr hc
    rw [hsz]
    rcases Nat.lt_or_ge i l.length with h1 | h1
    ·rw [List.getElem?_append_left (by simpa [hl] using h1),List.getElem?_map,Option.map_eq_some_iff] at hr
     obtain ⟨x,hx,rfl⟩:=hr
     exact hcell i x j c hx hc
    ·rw [List.getElem?_append_right (by simpa [hl] using h1),List.getElem?_drop] at hr
     rw [List.length_map,hl,show l.length + (i - l.length) = i by omega] at hr
     have:=f3.cell _ r j c hr hc
     rw [hsz] at this
     have hi : i < mb.cn:=by rw [← f1]; exact (List.getElem?_eq_some_iff.1 hr).1
     have hj : j < 2:=by rw [← hsz,← f3.len i r hr]; exact (List.getElem?_eq_some_iff.1 hc).1
     have e : vs'.getD (mb.base + i * 2 + j) undef = vs.getD (mb.base + i * 2 + j) undef:=by
      show (putCells _ mb.base fl vs).getD _ undef = _
      rw [putCells_get _ _ _ _ _ (by omega),if_neg (by omega)]
     rw [e]
     exact this
   ·obtain ⟨us,t',hu⟩:=hum (by simp)
    rw [hb0] at hu
    injection hu with hu
    injection hu with h1 h2 h3
    exact ⟨vs',t,by rw [hat,h3]⟩
  ·rw [Heap.get_set_ne _ e] at hB
   by_cases hd : B = .dead
   ·subst hd
    exact .inr trivial
   ·exact .inl ⟨hj,hB,hne _ (hI.lt _ _ hj).2 (cb_other hI hm hj (live_of hg (by simp)) (live_of hB hd) e),fun _ _ hv => hv⟩
 ·exact ⟨MLe.refl m,FLe.refl F,hsize,hwell.1,hwell.2.1,hwell.2.2,fun b h1 h2 => hne b h1 (fun e => h2 id mb hm e.symm),fun _ _ h => .inl h,fun _ _ _ h => .inl h⟩
theorem sorted_holds {m : Mp} {F : Fz} {H : Heap} {w : World} (hI : Inv P m F H w) {id : Nat} {mb : MB} (hm : m id = some mb) {l : List SR} (hg : H.get id = some (.row false 2 (l.map srC))) : HoldsK srE 2 w mb.cb mb.base l.toArray:=by
 obtain ⟨vs,hcb,hsz,hcn,hfit,hrl,hrc,_⟩:=hI.blk id mb _ hm hg
 rw [List.length_map] at hcn
 have hl2 : l.length * 2 ≤ mb.cn * 2:=Nat.mul_le_mul_right _ hcn
 intro j hj
 have hj' : j < l.length * 2:=by simpa using hj
 have hlt : mb.base + j < vs.size:=by omega
 refine ⟨?_,hcb.frozen _ hlt⟩
 rw [hcb.cell _ hlt,get_flatK _ _ _ _ (by simpa using hj')]
 have hi : j / 2 < l.length:=by omega
 have hx : (l.map srC)[j / 2]? = some (srC l[j / 2]):=by rw [List.getElem?_map,List.getElem?_eq_getElem hi]; rfl
 have e1 : l.toArray[j / 2]! = l[j / 2]:=by
  rw [getElem!_pos _ _ (by simpa using hi)]
  simp
 rw [e1]
 have hc : (srC l[j / 2])[j % 2]? = some (.sc ((srE l[j / 2]).getD (j % 2) undef)):=by
  have : j % 2 = 0 ∨ j % 2 = 1:=by omega
  rcases this with h | h <;> rw [h] <;> rfl
 obtain ⟨_,h2⟩:=hrc _ _ _ _ hx hc
 rw [show mb.base + j / 2 * 2 + j % 2 = mb.base + j by omega] at h2
 have h3 : vs.getD (mb.base + j) undef = (srE l[j / 2]).getD (j % 2) undef:=by
  generalize vs.getD (mb.base + j) undef = a at h2 ⊢
  generalize (srE l[j / 2]).getD (j % 2) undef = b at h2 ⊢
  exact (vr_sc (m:=m) (.fz h2)).1
 rw [h3,srE_get _ _ (by omega)]
 rfl
theorem sortP_ok {ρ : Go.Shelf.Ren} (L : SlLaysF0.n6 P ρ) {k g : FuncId} (hk : ρ.f 6 = k) (aE : ∀ w,(isAgg (ρ.t 24)).run P w = .ok true w) (zE : ∀ w,(Go.sizeOf (ρ.t 24)).run P w = .ok 2 w)
  (ek : ∀ args w,(callFunc k args).run P w = .ok (.enter k args) w) (eg : ∀ args w,(callFunc g args).run P w = .ok (.enter g args) w)
  (hcl : ∀ (x y : SR) (W : World),Calls P g #[.agg (srE x).toArray,.agg (srE y).toArray] W fun e w' => e = .returned (.int .i64 (srCf x y)) ∧ ∃ q os',w' = grow (W.drewN q) os')
  {p : List AV → Option AV} (hp : PPrimOk P k p) (h0 : p [.lst [],.fn (.func g) [] []] = some (.tup [])) : PrimOk P k (sortP g):=by
 intro args H H' r h m F w vs hI hv
 have hfn : ∀ {n : Nat} {a : AV},args = [a,.fn (.func n) [] []] → ∃ v,vs = #[v,.func (.func n) #[] #[]] ∧ VR m F a v:=by
  intro n a e
  subst e
  have hl:=hv.len
  obtain ⟨vf,vc,h1,h2,h3,_⟩:=vr_fn (hv.val 1 (.fn (.func n) [] []) rfl)
  obtain rfl : vf = #[]:=Array.eq_empty_of_size_eq_zero h2
  obtain rfl : vc = #[]:=Array.eq_empty_of_size_eq_zero h3
  refine ⟨vs.getD 0 undef,?_,hv.val 0 a rfl⟩
  rw [← h1]
  refine Array.ext (by simpa using hl) fun i h1 h2 => ?_
  simp at hl
  match i with
  | 0 => simp [Array.getD_eq_getD_getElem?,h1]
  | 1 => simp [Array.getD_eq_getD_getElem?,h1]
  | i + 2 => omega
 have emp : ∀ {a : AV},args = [a,.fn (.func g) [] []] → (∀ v,VR m F a v → ∃ A c,v = .slice A 0 c) → r = .tup [] → H' = H →
   ((callFunc k vs).run P w = .ok (.enter k vs) w ∧ Calls P k vs w (CallPost P m F H w r H')) ∨ (∃ u w',(callFunc k vs).run P w = .ok (.value u) w' ∧ CallPost P m F H w r H' (.returned u) w'):=by
  intro a e ha hr hH
  subst hr hH
  obtain ⟨v,rfl,hva⟩:=hfn e
  obtain ⟨A,c,rfl⟩:=ha v hva
  refine hp _ _ h0 m F H' w _ hI rfl fun i c' hc => ?_
  match i,hc with
  | 0,hc => cases hc; exact vf_nolst F A c
  | 1,hc => cases hc; exact .fn rfl rfl (by simp) (by simp)
 unfold sortP at h
 split at h
 ·rename_i id len n
  split at h
  rotate_left
  ·cases h
  rename_i hn
  subst hn
  split at h
  rotate_left
  ·cases h
  rename_i rows hg
  split at h
  rotate_left
  ·cases h
  rename_i hlen
  obtain ⟨rfl,hle⟩:=hlen
  rw [Option.map_eq_some_iff] at h
  obtain ⟨l,hl,h⟩:=h
  cases h
  obtain rfl:=srsOf_some hl
  obtain ⟨v,rfl,hva⟩:=hfn rfl
  obtain ⟨mb,cap,hm,rfl,hc1,hc2⟩:=vr_sl hva
  have hb:=(hI.lt id mb hm).2
  have hsz : l.toArray.size < 4611686018427387904:=by simp at hle ⊢; omega
  have hcon:=AnyQ.slices_SortFunc_eq L 2 aE zE srE srE_len srE_one srCf srSWO n #[] mb.cb mb.base cap l.toArray w eg (fun m os dk hs x y => by simpa using hcl x y _) (sorted_holds hI hm hg) hb hsz
  rw [hk] at hcon
  refine .inl ⟨ek _ _,?_⟩
  have e1 : (.slice (some ⟨mb.cb,mb.base + 0 * mb.sz,none⟩) (l.map srC).length cap : Value) = .slice (some ⟨mb.cb,mb.base,none⟩) l.toArray.size cap:=by simp
  rw [e1]
  refine hcon.mono fun en w' ⟨he,n,os,hw⟩ => ?_
  have e2 : pdq (ltOf srCf) l.toArray 0 l.toArray.size (Lib.bitLen l.toArray.size) true true = (sortL l).toArray:=by
   unfold sortL
   simp
   rfl
  rw [e2] at hw
  subst hw
  obtain ⟨q1,q2⟩:=sorted_inv hI hm hg (sortL_len l) n os
  exact ⟨_,m,F,he,.fz (.tup (vs:=#[]) rfl (by simp)),q1,q2,⟨fun _ _ h => .inl h,by simp⟩⟩
 ·rename_i n
  split at h
  ·rename_i hn
   subst hn
   cases h
   exact emp rfl (fun v hv => ⟨none,0,(vr_sc hv).1⟩) rfl rfl
  ·cases h
 ·rename_i n
  split at h
  ·rename_i hn
   subst hn
   cases h
   exact emp rfl (fun v hv => by obtain ⟨A,h⟩:=vr_emp hv; exact ⟨A,0,h⟩) rfl rfl
  ·cases h
 ·cases h
end
end Go.VI
namespace Go.VI
def frzW (W : World) : Fz:=fun b o => W.cell? ⟨b,o,none⟩
def CVF (F : Fz) (xs : List AV) (cs : List Value) : Prop:=xs.length = cs.length ∧ ∀ i c,xs[i]? = some c → c.one = true ∧ VF F c (cs.getD i undef)
def RD (P : Program) (W : World) (t : TypeId) (E : List AV → Prop) : Prop :=
 ∀ (H : Type) (enc : TypeId × Value → H) (base : Nat) (spare : Nat → Bool) (held : Bool) (fuel : Nat) (cs : List Value) (x : DataW H × List MemPlace),
  DataW.trod enc P W base spare held fuel t cs = some x → (∀ n ∈ x.1.weights P t,n ≤ reachBytes) → ∃ xs,E xs ∧ CVF (frzW W) xs cs
theorem CVF.one {F : Fz} {a : AV} {v : Value} (h1 : a.one = true) (h : VF F a v) : CVF F [a] [v]:=⟨rfl,fun i c hc => by
 cases i with
 | zero => cases hc; exact ⟨h1,h⟩
 | succ i => simp at hc⟩
theorem CVF.cons {F : Fz} {a : AV} {v : Value} {l : List AV} {vs : List Value} (h : CVF F [a] [v]) (ht : CVF F l vs) : CVF F (a :: l) (v :: vs):=⟨by simp [ht.1],fun i c hc => by
 cases i with
 | zero => exact h.2 0 c hc
 | succ i => exact ht.2 i c hc⟩
theorem rd_int {P : Program} {W : World} {t : TypeId} {k : IntKind} (ht : P.underlying t = some (.int k)) : RD P W t fun xs => ∃ n,xs = [.sc (.int k n)] ∧ (Lit.int k n).wf = true:=fun H enc base spare held fuel cs x h _ => by
 obtain ⟨n,rfl,_,hw⟩:=DataW.trod_int ht h
 exact ⟨_,⟨n,rfl,hw⟩,.one rfl (.sc rfl)⟩
theorem cell_flat {W : World} {a : Addr} {v : Value} (h : W.cell? a = some v) : a.spot = none:=by
 cases hs : a.spot with
 | none => rfl
 | some s =>
  simp only [World.cell?] at h
  split at h
  ·simp [hs] at h
  ·cases h
theorem add_flat (b o i : Nat) : (Addr.mk b o none).add i = ⟨b,o + i,none⟩:=by
 unfold Addr.add
 split
 ·rename_i h; subst h; rfl
 ·rfl
theorem weights_all {H : Type} {P : Program} {e : TypeId} : ∀ {l : List (DataW H)} {d : DataW H},d ∈ l → ∀ n ∈ d.weights P e,n ∈ DataW.weightsAll P e l
 | x :: l,d,hd,n,hn => by
  simp only [DataW.weightsAll,List.mem_append]
  rcases List.mem_cons.1 hd with rfl | hd
  ·exact .inl hn
  ·exact .inr (weights_all hd n hn)
theorem rd_slice {P : Program} {W : World} {t e : TypeId} {E : List AV → Prop} {sz B : Nat} (ht : P.underlying t = some (.slice e)) (hc : P.cellsOf e = sz) (h0 : 0 < sz) (hB : P.bytesOf e = B) (he : RD P W e E) :
  RD P W t fun xs => ∃ rows,xs = [.lst rows] ∧ (∀ r ∈ rows,E r ∧ r.length = sz) ∧ rows.length * B ≤ reachBytes:=fun H enc base spare held fuel cs x h hw => by
 rcases DataW.trod_slice ht h with ⟨rfl,rfl⟩ | ⟨a,len,cap,elems,rest,n,rfl,rfl,rfl,hb,hl,hm,hlen,hel,_,_⟩
 ·exact ⟨_,⟨[],rfl,by simp,by simp⟩,.one rfl (.lst (sz:=0) (b:=0) (o:=0) (fun _ _ => undef) (Nat.le_refl _) (fun h => absurd rfl h) (by simp) (by simp) (by simp) (by simp))⟩
 ·rw [hc] at hel
  have hw1 : (len + rest.length) * B ≤ reachBytes:=by
   have:=hw ((elems.length + rest.length) * P.bytesOf e) (by simp [DataW.weights,ht])
   rwa [hB,hlen] at this
  have each : ∀ i : Nat,∃ r : List AV,i < len → ∃ cs,W.cells? base (a.add (i * sz)) sz = some cs ∧ E r ∧ CVF (frzW W) r cs:=fun i => by
   by_cases hi : i < len
   ·have hy:=hel i hi
    have hi' : i < elems.length:=by omega
    rw [List.getElem?_eq_getElem hi',Option.bind_eq_some_iff] at hy
    obtain ⟨cs,hcs,hy⟩:=hy
    obtain ⟨r,hr,hv⟩:=he H enc base spare held n cs _ hy fun k hk => hw k (by
     simp only [DataW.weights,ht,List.mem_cons,List.mem_append]
     exact .inr (.inl (weights_all (List.mem_map.2 ⟨elems[i],List.getElem_mem hi',rfl⟩) k hk)))
    exact ⟨r,fun _ => ⟨cs,hcs,hr,hv⟩⟩
   ·exact ⟨[],fun h => absurd h hi⟩
  obtain ⟨f,hf⟩:=Classical.skolem.1 each
  have hrows : ∀ i r,((List.range len).map f)[i]? = some r → i < len ∧ r = f i:=fun i r hr => by
   rw [List.getElem?_map,Option.map_eq_some_iff] at hr
   obtain ⟨j,hj,rfl⟩:=hr
   obtain ⟨h1,h2⟩:=List.getElem?_eq_some_iff.1 hj
   rw [List.getElem_range] at h2
   rw [List.length_range] at h1
   exact ⟨h1,by rw [h2]⟩
  have hlr : ∀ i,i < len → (f i).length = sz:=fun i hi => by
   obtain ⟨cs,h1,_,h2⟩:=hf i hi
   rw [h2.1,(World.cells?_some h1).2.1]
  have cell : ∀ i j,i < len → j < sz → ∃ cs,W.cells? base (a.add (i * sz)) sz = some cs ∧ W.cell? ((a.add (i * sz)).add j) = cs[j]? ∧ ∃ v,cs[j]? = some v:=fun i j hi hj => by
   obtain ⟨cs,h1,_,_⟩:=hf i hi
   obtain ⟨_,h2,h3⟩:=World.cells?_some h1
   exact ⟨cs,h1,h3 j hj,_,List.getElem?_eq_getElem (by omega)⟩
  have hflat : 0 < len → a = ⟨a.block,a.off,none⟩:=fun h => by
   obtain ⟨cs,_,h1,v,h2⟩:=cell 0 0 h h0
   rw [h2] at h1
   have h3 : (a.add (0 * sz)).add 0 = a:=by rw [Nat.zero_mul]; simp [Addr.add]
   rw [h3] at h1
   have:=cell_flat h1
   cases a
   simp only at this
   subst this
   rfl
  have hF : ∀ i j c,i < len → (f i)[j]? = some c → c.one = true ∧ ∃ v,frzW W a.block (a.off + i * sz + j) = some v ∧ VF (frzW W) c v:=fun i j c hi hc => by
   have hj : j < sz:=by rw [← hlr i hi]; exact (List.getElem?_eq_some_iff.1 hc).1
   obtain ⟨cs,h1,h2,v,h3⟩:=cell i j hi hj
   obtain ⟨cs',h1',_,h4⟩:=hf i hi
   rw [h1] at h1'
   cases h1'
   obtain ⟨h5,h6⟩:=h4.2 j c hc
   refine ⟨h5,v,?_,?_⟩
   ·rw [hflat (by omega),add_flat,add_flat,h3] at h2
    exact h2
   ·have : cs.getD j undef = v:=by rw [List.getD_eq_getElem?_getD,h3]; rfl
    rwa [this] at h6
  refine ⟨_,⟨(List.range len).map f,rfl,fun r hr => ?_,?_⟩,.one rfl ?_⟩
  ·obtain ⟨i,hi,rfl⟩:=List.mem_map.1 hr
   have hi:=List.mem_range.1 hi
   obtain ⟨_,_,h1,_⟩:=hf i hi
   exact ⟨h1,hlr i hi⟩
  ·simp only [List.length_map,List.length_range]
   exact Nat.le_trans (Nat.mul_le_mul_right _ (by omega)) hw1
  ·have hll : ((List.range len).map f).length = len:=by simp
   have:=VF.lst (F:=frzW W) (rows:=(List.range len).map f) (A:=some a) (cap:=cap) (sz:=sz) (b:=a.block) (o:=a.off) (fun i j => (frzW W a.block (a.off + i * sz + j)).getD undef)
    (by simpa using hl) (fun h => by rw [← hflat (by
     cases len with
     | zero => simp at h
     | succ => omega)]) (fun i r hr => by obtain ⟨h1,rfl⟩:=hrows i r hr; exact hlr i h1)
    (fun i r j c hr hc => by obtain ⟨h1,rfl⟩:=hrows i r hr; exact (hF i j c h1 hc).1)
    (fun i r j c hr hc => by
     obtain ⟨h1,rfl⟩:=hrows i r hr
     obtain ⟨_,v,h2,_⟩:=hF i j c h1 hc
     rw [h2]; rfl)
    (fun i r j c hr hc => by
     obtain ⟨h1,rfl⟩:=hrows i r hr
     obtain ⟨_,v,h2,h3⟩:=hF i j c h1 hc
     rw [h2]; exact h3)
   rwa [hll] at this
def SE : List (List AV → Prop) → List AV → Prop
 | [],xs => xs = []
 | E :: Es,xs => ∃ a b,xs = a ++ b ∧ E a ∧ SE Es b
def consec (P : Program) : List Field → Nat → Nat → Bool
 | [],off,en => off == en
 | f :: fs,off,en => f.offset == off && consec P fs (off + P.cellsOf f.type) en
theorem consec_le {P : Program} : ∀ {fs : List Field} {off en : Nat},consec P fs off en = true → off ≤ en
 | [],off,en,h => by simp [consec] at h; omega
 | f :: fs,off,en,h => by
  simp only [consec,Bool.and_eq_true] at h
  have:=consec_le h.2
  omega
def RDs (P : Program) (W : World) : List Field → List (List AV → Prop) → Prop
 | [],[] => True
 | f :: fs,E :: Es => RD P W f.type E ∧ RDs P W fs Es
 | _,_ => False
theorem rd_fields {P : Program} {W : World} {H : Type} {enc : TypeId × Value → H} {base : Nat} {spare : Nat → Bool} {held : Bool} {n : Nat} {cs : List Value} : ∀ (fs : List Field) (Es : List (List AV → Prop)) (off : Nat) (xs : List (DataW H × List MemPlace)),
  RDs P W fs Es → consec P fs off cs.length = true → xs.length = fs.length → (∀ (i : Nat) (f : Field),fs[i]? = some f → DataW.trod enc P W base spare held n f.type ((cs.drop f.offset).take (P.cellsOf f.type)) = xs[i]?) →
  (∀ k ∈ DataW.weightsEach P (fs.map (·.type)) (xs.map (·.1)),k ≤ reachBytes) → ∃ xs,SE Es xs ∧ CVF (frzW W) xs (cs.drop off)
 | [],[],off,xs,_,hc,_,_,_ => by
  simp only [consec,beq_iff_eq] at hc
  refine ⟨[],rfl,by simp [hc],fun i c h => by simp at h⟩
 | [],_ :: _,_,_,h,_,_,_,_ => h.elim
 | _ :: _,[],_,_,h,_,_,_,_ => h.elim
 | f :: fs,E :: Es,off,[],_,_,hl,_,_ => by simp at hl
 | f :: fs,E :: Es,off,x :: xs,hr,hc,hl,ht,hw => by
  simp only [consec,Bool.and_eq_true,beq_iff_eq] at hc
  obtain ⟨ho,hc⟩:=hc
  have hle:=consec_le hc
  simp only [List.map_cons,DataW.weightsEach,List.mem_append] at hw
  have h0:=ht 0 f rfl
  rw [ho] at h0
  obtain ⟨a,ha,hva⟩:=hr.1 H enc base spare held n _ x h0 fun k hk => hw k (.inl hk)
  obtain ⟨b,hb,hvb⟩:=rd_fields fs Es (off + P.cellsOf f.type) xs hr.2 hc (by simpa using hl) (fun i g hg => ht (i + 1) g hg) fun k hk => hw k (.inr hk)
  have hla : a.length = P.cellsOf f.type:=by
   rw [hva.1]
   simp
   omega
  refine ⟨a ++ b,⟨a,b,rfl,ha,hb⟩,?_,fun i c h => ?_⟩
  ·rw [List.length_append,hvb.1,hla]
   simp
   omega
  ·by_cases hi : i < a.length
   ·rw [List.getElem?_append_left hi] at h
    obtain ⟨h1,h2⟩:=hva.2 i c h
    refine ⟨h1,?_⟩
    have : ((cs.drop off).take (P.cellsOf f.type)).getD i undef = (cs.drop off).getD i undef:=by
     rw [List.getD_eq_getElem?_getD,List.getD_eq_getElem?_getD,List.getElem?_take_of_lt (by omega)]
    rwa [this] at h2
   ·rw [List.getElem?_append_right (by omega)] at h
    obtain ⟨h1,h2⟩:=hvb.2 _ c h
    refine ⟨h1,?_⟩
    have : (cs.drop (off + P.cellsOf f.type)).getD (i - a.length) undef = (cs.drop off).getD i undef:=by
     rw [List.getD_eq_getElem?_getD,List.getD_eq_getElem?_getD,List.getElem?_drop,List.getElem?_drop]
     congr 2
     omega
    rwa [this] at h2
theorem rd_struct {P : Program} {W : World} {t : TypeId} {fs : Array Field} {Es : List (List AV → Prop)} (ht : P.underlying t = some (.struct fs)) (hc : consec P fs.toList 0 (P.cellsOf t) = true) (hr : RDs P W fs.toList Es) :
  RD P W t (SE Es):=fun H enc base spare held fuel cs x h hw => by
 obtain ⟨xs,n,rfl,rfl,hl,hx,hf⟩:=DataW.trod_struct ht h
 have:=rd_fields (cs:=cs) fs.toList Es 0 xs hr (by rw [hl]; exact hc) (by simpa using hx) (fun i f hi => hf i f (by simpa using hi)) (fun k hk => hw k (by simpa [DataW.weights,ht] using hk))
 simpa using this
end Go.VI
namespace Go.VI
open Go.RowKit
def m0 : Mp:=fun _ => none
theorem inv0 {P : Program} (W : World) : Inv P m0 (frzW W) Heap.empty W :=
 ⟨fun b o v h => h,fun id mb h => absurd h (by simp [m0]),fun id mb B h => absurd h (by simp [m0]),fun id id' mb mb' h => absurd h (by simp [m0])⟩
theorem below_of {F' : Fz} {m' : Mp} {W W' : World} (h : Ext m0 (frzW W) W m' F' W') : Below W.heap.size W W' :=
 ⟨h.os,h.tape,h.out,h.sz,fun k hk => h.blk k hk fun id mb hm => absurd hm (by simp [m0])⟩
theorem law_calls {P : Program} (hP : P.follows .mixedOrders = true) {ft : FT} (hft : FTOk P ft) {k : FuncId} {args : List AV} {vs : Array Value} {W : World} {H' : Heap} (hgo : ∃ p n rs body,ft k = some (.go p n rs body))
  (h : callL ft (.fn (.func k) [] []) args Heap.empty = some (.sc (.bool true),H')) (hv : VRs m0 (frzW W) args vs) :
  Calls P k vs W fun e W' => e = .returned (.bool true) ∧ Below W.heap.size W W':=by
 obtain ⟨n,hn⟩:=callL_some.1 h
 have hn' : callF ft (exec ft n) k args Heap.empty = some (.sc (.bool true),H'):=by simpa [callV] using hn
 refine (callF_sound hP hft n hn' (inv0 W) hv hgo).mono fun e W' he => ?_
 obtain ⟨u,m',F',rfl,hu,_,hx,_⟩:=he
 refine ⟨?_,below_of hx⟩
 cases hu with
 | fz hu => cases hu; rfl
theorem go_ok {P : Program} {k : FuncId} {n : Nat} {rs : List ARes} {body : ACode} (h : compF P k = some (n,rs,body)) (hn : (P.funcs[k]?).all (fun fn => !(fn.name == "runtime.NumGoroutine")) = true) :
  ∃ fn c,P.funcs[k]? = some fn ∧ (fn.name == "runtime.NumGoroutine") = false ∧ fn.body = some c ∧ compC P c = some body ∧ fn.ntmps = n ∧ fn.results.toList.mapM (compRes P) = some rs:=by
 unfold compF at h
 simp only [Option.bind_eq_some_iff,Option.map_eq_some_iff,Prod.mk.injEq] at h
 obtain ⟨fn,h1,b,h2,c,h3,rs',h4,rfl,rfl,rfl⟩:=h
 rw [h1] at hn
 exact ⟨fn,b,h1,by simpa using hn,h2,h3,rfl,h4⟩
end Go.VI
namespace Go.VI
open Go.Sort Go.Proofs Go.Shelf
attribute [local congr] AW_congr OW_congr DW_congr NW_congr VW_congr GW_congr PW_congr KW_congr ite_congr' GV_congr CV_congr
def c123L0 : ACode:=(.block 1 (.seq (.region [⟨(some 21),(.mov (.tmp 2)),none⟩,⟨(some 22),(.mov (.tmp 1)),none⟩,⟨(some 23),(.bin .sub 3 (.tmp 21) (.tmp 22)),none⟩,⟨(some 12),(.mov (.tmp 23)),none⟩] false []) (.seq (.seq (.region [⟨(some 24),(.mov (.tmp 12)),none⟩,⟨(some 25),(.bin .leq 3 (.tmp 24) (.const (.int .i64 12))),none⟩] false []) (.cond (.tmp 25) (.seq (.region [⟨(some 26),(.mov (.tmp 0)),none⟩,⟨(some 27),(.mov (.tmp 1)),none⟩,⟨(some 28),(.mov (.tmp 2)),none⟩,⟨(some 29),(.mov (.tmp 4)),none⟩,⟨(some 30),(.call (.func 131) [(.tmp 26),(.tmp 27),(.tmp 28),(.tmp 29)]),none⟩] false []) .ret) .skip)) (.seq (.seq (.region [⟨(some 31),(.mov (.tmp 3)),none⟩,⟨(some 32),(.bin .eql 3 (.tmp 31) (.const (.int .i64 0))),none⟩] false []) (.cond (.tmp 32) (.seq (.region [⟨(some 33),(.mov (.tmp 0)),none⟩,⟨(some 34),(.mov (.tmp 1)),none⟩,⟨(some 35),(.mov (.tmp 2)),none⟩,⟨(some 36),(.mov (.tmp 4)),none⟩,⟨(some 37),(.call (.func 132) [(.tmp 33),(.tmp 34),(.tmp 35),(.tmp 36)]),none⟩] false []) .ret) .skip)) (.seq (.seq (.region [⟨(some 38),(.mov (.tmp 10)),none⟩,⟨(some 39),(.un .not (.tmp 38)),none⟩] false []) (.cond (.tmp 39) (.seq (.region [⟨(some 40),(.mov (.tmp 0)),none⟩,⟨(some 41),(.mov (.tmp 1)),none⟩,⟨(some 42),(.mov (.tmp 2)),none⟩,⟨(some 43),(.mov (.tmp 4)),none⟩,⟨(some 44),(.call (.func 133) [(.tmp 40),(.tmp 41),(.tmp 42),(.tmp 43)]),none⟩] false []) (.region [⟨(some 45),(.mov (.tmp 3)),none⟩,⟨(some 46),(.bin .sub 3 (.tmp 45) (.const (.int .i64 1))),none⟩,⟨(some 3),(.mov (.tmp 46)),none⟩] false [])) .skip)) (.seq (.region [⟨(some 48),(.mov (.tmp 0)),none⟩,⟨(some 49),(.mov (.tmp 1)),none⟩,⟨(some 50),(.mov (.tmp 2)),none⟩,⟨(some 51),(.mov (.tmp 4)),none⟩,⟨(some 52),(.call (.func 134) [(.tmp 48),(.tmp 49),(.tmp 50),(.tmp 51)]),none⟩,⟨(some 47),(.mov (.tmp 52)),none⟩,⟨(some 53),(.ext (.tmp 47) 0),none⟩,⟨(some 54),(.ext (.tmp 47) 1),none⟩,⟨(some 13),(.mov (.tmp 53)),none⟩,⟨(some 14),(.mov (.tmp 54)),none⟩] false []) (.seq (.seq (.region [⟨(some 55),(.mov (.tmp 14)),none⟩,⟨(some 56),(.bin .eql 181 (.tmp 55) (.const (.int .i64 2))),none⟩] false []) (.cond (.tmp 56) (.seq (.region [⟨(some 57),(.mov (.tmp 0)),none⟩,⟨(some 58),(.mov (.tmp 1)),none⟩,⟨(some 59),(.mov (.tmp 2)),none⟩,⟨(some 60),(.mov (.tmp 4)),none⟩,⟨(some 61),(.call (.func 135) [(.tmp 57),(.tmp 58),(.tmp 59),(.tmp 60)]),none⟩] false []) (.seq (.region [⟨(some 62),(.mov (.tmp 2)),none⟩,⟨(some 63),(.bin .sub 3 (.tmp 62) (.const (.int .i64 1))),none⟩,⟨(some 64),(.mov (.tmp 13)),none⟩,⟨(some 65),(.mov (.tmp 1)),none⟩,⟨(some 66),(.bin .sub 3 (.tmp 64) (.tmp 65)),none⟩,⟨(some 67),(.bin .sub 3 (.tmp 63) (.tmp 66)),none⟩,⟨(some 13),(.mov (.tmp 67)),none⟩] false []) (.region [⟨(some 14),(.mov (.const (.int .i64 1))),none⟩] false []))) .skip)) (.seq (.seq (.region [⟨(some 68),(.mov (.tmp 10)),none⟩,⟨(some 69),(.mov (.tmp 68)),none⟩,⟨(some 70),(.mov (.tmp 11)),(some ((some 69),true))⟩,⟨(some 71),(.pick (.tmp 69) (.tmp 70) (.const (.bool false))),none⟩,⟨(some 72),(.mov (.tmp 71)),none⟩,⟨(some 73),(.mov (.tmp 14)),(some ((some 72),true))⟩,⟨(some 74),(.bin .eql 181 (.tmp 73) (.const (.int .i64 1))),(some ((some 72),true))⟩,⟨(some 75),(.pick (.tmp 72) (.tmp 74) (.const (.bool false))),none⟩] false []) (.cond (.tmp 75) (.seq (.region [⟨(some 76),(.mov (.tmp 0)),none⟩,⟨(some 77),(.mov (.tmp 1)),none⟩,⟨(some 78),(.mov (.tmp 2)),none⟩,⟨(some 79),(.mov (.tmp 4)),none⟩,⟨(some 80),(.call (.func 136) [(.tmp 76),(.tmp 77),(.tmp 78),(.tmp 79)]),none⟩] false []) (.cond (.tmp 80) .ret .skip)) .skip)) (.seq (.seq (.region [⟨(some 81),(.mov (.tmp 1)),none⟩,⟨(some 82),(.bin .gtr 3 (.tmp 81) (.const (.int .i64 0))),none⟩,⟨(some 83),(.mov (.tmp 82)),none⟩,⟨(some 84),(.mov (.tmp 4)),(some ((some 83),true))⟩,⟨(some 85),(.mov (.tmp 0)),(some ((some 83),true))⟩,⟨(some 86),(.mov (.tmp 1)),(some ((some 83),true))⟩,⟨(some 87),(.bin .sub 3 (.tmp 86) (.const (.int .i64 1))),(some ((some 83),true))⟩,⟨(some 88),(.iaddr none 2 (.tmp 85) (.tmp 87)),(some ((some 83),true))⟩,⟨(some 89),(.load true 2 (.tmp 88)),(some ((some 83),true))⟩,⟨(some 90),(.mov (.tmp 0)),(some ((some 83),true))⟩,⟨(some 91),(.mov (.tmp 13)),(some ((some 83),true))⟩,⟨(some 92),(.iaddr none 2 (.tmp 90) (.tmp 91)),(some ((some 83),true))⟩,⟨(some 93),(.load true 2 (.tmp 92)),(some ((some 83),true))⟩,⟨(some 94),(.call (.tmp 84) [(.tmp 89),(.tmp 93)]),(some ((some 83),true))⟩,⟨(some 95),(.bin .lss 3 (.tmp 94) (.const (.int .i64 0))),(some ((some 83),true))⟩,⟨(some 96),(.un .not (.tmp 95)),(some ((some 83),true))⟩,⟨(some 97),(.pick (.tmp 83) (.tmp 96) (.const (.bool false))),none⟩] true []) (.cond (.tmp 97) (.seq (.region [⟨(some 98),(.mov (.tmp 0)),none⟩,⟨(some 99),(.mov (.tmp 1)),none⟩,⟨(some 100),(.mov (.tmp 2)),none⟩,⟨(some 101),(.mov (.tmp 13)),none⟩,⟨(some 102),(.mov (.tmp 4)),none⟩,⟨(some 103),(.call (.func 137) [(.tmp 98),(.tmp 99),(.tmp 100),(.tmp 101),(.tmp 102)]),none⟩,⟨(some 15),(.mov (.tmp 103)),none⟩] false []) (.seq (.region [⟨(some 104),(.mov (.tmp 15)),none⟩,⟨(some 1),(.mov (.tmp 104)),none⟩] false []) (.exit 1))) .skip)) (.seq (.region [⟨(some 106),(.mov (.tmp 0)),none⟩,⟨(some 107),(.mov (.tmp 1)),none⟩,⟨(some 108),(.mov (.tmp 2)),none⟩,⟨(some 109),(.mov (.tmp 13)),none⟩,⟨(some 110),(.mov (.tmp 4)),none⟩,⟨(some 111),(.call (.func 138) [(.tmp 106),(.tmp 107),(.tmp 108),(.tmp 109),(.tmp 110)]),none⟩,⟨(some 105),(.mov (.tmp 111)),none⟩,⟨(some 112),(.ext (.tmp 105) 0),none⟩,⟨(some 113),(.ext (.tmp 105) 1),none⟩,⟨(some 16),(.mov (.tmp 112)),none⟩,⟨(some 17),(.mov (.tmp 113)),none⟩] false []) (.seq (.region [⟨(some 114),(.mov (.tmp 17)),none⟩,⟨(some 11),(.mov (.tmp 114)),none⟩] false []) (.seq (.region [⟨(some 115),(.mov (.tmp 16)),none⟩,⟨(some 116),(.mov (.tmp 1)),none⟩,⟨(some 117),(.bin .sub 3 (.tmp 115) (.tmp 116)),none⟩,⟨(some 118),(.mov (.tmp 2)),none⟩,⟨(some 119),(.mov (.tmp 16)),none⟩,⟨(some 120),(.bin .sub 3 (.tmp 118) (.tmp 119)),none⟩,⟨(some 18),(.mov (.tmp 117)),none⟩,⟨(some 19),(.mov (.tmp 120)),none⟩] false []) (.seq (.region [⟨(some 121),(.mov (.tmp 12)),none⟩,⟨(some 122),(.bin .quo 3 (.tmp 121) (.const (.int .i64 8))),none⟩,⟨(some 20),(.mov (.tmp 122)),none⟩] false []) (.seq (.region [⟨(some 123),(.mov (.tmp 18)),none⟩,⟨(some 124),(.mov (.tmp 19)),none⟩,⟨(some 125),(.bin .lss 3 (.tmp 123) (.tmp 124)),none⟩] false []) (.cond (.tmp 125) (.seq (.region [⟨(some 126),(.mov (.tmp 18)),none⟩,⟨(some 127),(.mov (.tmp 20)),none⟩,⟨(some 128),(.bin .geq 3 (.tmp 126) (.tmp 127)),none⟩,⟨(some 10),(.mov (.tmp 128)),none⟩] false []) (.seq (.region [⟨(some 129),(.mov (.tmp 0)),none⟩,⟨(some 130),(.mov (.tmp 1)),none⟩,⟨(some 131),(.mov (.tmp 16)),none⟩,⟨(some 132),(.mov (.tmp 3)),none⟩,⟨(some 133),(.mov (.tmp 4)),none⟩,⟨(some 134),(.call (.func 123) [(.tmp 129),(.tmp 130),(.tmp 131),(.tmp 132),(.tmp 133)]),none⟩] false []) (.region [⟨(some 135),(.mov (.tmp 16)),none⟩,⟨(some 136),(.bin .add 3 (.tmp 135) (.const (.int .i64 1))),none⟩,⟨(some 1),(.mov (.tmp 136)),none⟩] false []))) (.seq (.region [⟨(some 137),(.mov (.tmp 19)),none⟩,⟨(some 138),(.mov (.tmp 20)),none⟩,⟨(some 139),(.bin .geq 3 (.tmp 137) (.tmp 138)),none⟩,⟨(some 10),(.mov (.tmp 139)),none⟩] false []) (.seq (.region [⟨(some 140),(.mov (.tmp 0)),none⟩,⟨(some 141),(.mov (.tmp 16)),none⟩,⟨(some 142),(.bin .add 3 (.tmp 141) (.const (.int .i64 1))),none⟩,⟨(some 143),(.mov (.tmp 2)),none⟩,⟨(some 144),(.mov (.tmp 3)),none⟩,⟨(some 145),(.mov (.tmp 4)),none⟩,⟨(some 146),(.call (.func 123) [(.tmp 140),(.tmp 142),(.tmp 143),(.tmp 144),(.tmp 145)]),none⟩] false []) (.region [⟨(some 147),(.mov (.tmp 16)),none⟩,⟨(some 2),(.mov (.tmp 147)),none⟩] false []))))))))))))))))))
def c123 : ACode:=(.seq (.region [⟨(some 10),(.mov (.const (.bool true))),none⟩] false []) (.seq (.region [⟨(some 11),(.mov (.const (.bool true))),none⟩] false []) (.block 0 (.loop c123L0))))
def r123 : List ARes:=[]
def c131L0 : ACode:=(.seq (.seq (.region [⟨(some 18),(.mov (.tmp 9)),none⟩,⟨(some 19),(.mov (.tmp 1)),none⟩,⟨(some 20),(.bin .gtr 3 (.tmp 18) (.tmp 19)),none⟩,⟨(some 21),(.mov (.tmp 20)),none⟩,⟨(some 22),(.mov (.tmp 3)),(some ((some 21),true))⟩,⟨(some 23),(.mov (.tmp 0)),(some ((some 21),true))⟩,⟨(some 24),(.mov (.tmp 9)),(some ((some 21),true))⟩,⟨(some 25),(.iaddr none 2 (.tmp 23) (.tmp 24)),(some ((some 21),true))⟩,⟨(some 26),(.load true 2 (.tmp 25)),(some ((some 21),true))⟩,⟨(some 27),(.mov (.tmp 0)),(some ((some 21),true))⟩,⟨(some 28),(.mov (.tmp 9)),(some ((some 21),true))⟩,⟨(some 29),(.bin .sub 3 (.tmp 28) (.const (.int .i64 1))),(some ((some 21),true))⟩,⟨(some 30),(.iaddr none 2 (.tmp 27) (.tmp 29)),(some ((some 21),true))⟩,⟨(some 31),(.load true 2 (.tmp 30)),(some ((some 21),true))⟩,⟨(some 32),(.call (.tmp 22) [(.tmp 26),(.tmp 31)]),(some ((some 21),true))⟩,⟨(some 33),(.bin .lss 3 (.tmp 32) (.const (.int .i64 0))),(some ((some 21),true))⟩,⟨(some 34),(.pick (.tmp 21) (.tmp 33) (.const (.bool false))),none⟩] true []) (.cond (.tmp 34) .skip (.exit 2))) (.seq (.block 3 (.region [⟨(some 37),(.mov (.tmp 0)),none⟩,⟨(some 38),(.mov (.tmp 9)),none⟩,⟨(some 39),(.mov (.tmp 0)),none⟩,⟨(some 40),(.mov (.tmp 9)),none⟩,⟨(some 41),(.bin .sub 3 (.tmp 40) (.const (.int .i64 1))),none⟩,⟨(some 42),(.mov (.tmp 0)),none⟩,⟨(some 43),(.mov (.tmp 9)),none⟩,⟨(some 44),(.bin .sub 3 (.tmp 43) (.const (.int .i64 1))),none⟩,⟨(some 45),(.iaddr none 2 (.tmp 42) (.tmp 44)),none⟩,⟨(some 46),(.load true 2 (.tmp 45)),none⟩,⟨(some 47),(.mov (.tmp 0)),none⟩,⟨(some 48),(.mov (.tmp 9)),none⟩,⟨(some 49),(.iaddr none 2 (.tmp 47) (.tmp 48)),none⟩,⟨(some 50),(.load true 2 (.tmp 49)),none⟩,⟨(some 51),(.iaddr none 2 (.tmp 37) (.tmp 38)),none⟩,⟨none,(.store 2 (.tmp 51) (.tmp 46)),none⟩,⟨(some 52),(.iaddr none 2 (.tmp 39) (.tmp 41)),none⟩,⟨none,(.store 2 (.tmp 52) (.tmp 50)),none⟩] true [])) (.region [⟨(some 35),(.mov (.tmp 9)),none⟩,⟨(some 36),(.bin .sub 3 (.tmp 35) (.const (.int .i64 1))),none⟩,⟨(some 9),(.mov (.tmp 36)),none⟩] false [])))
def c131R1 : ACode:=(.region [⟨(some 15),(.mov (.tmp 8)),none⟩,⟨(some 16),(.bin .add 3 (.tmp 15) (.const (.int .i64 1))),none⟩,⟨(some 8),(.mov (.tmp 16)),none⟩] false [])
def c131L2 : ACode:=(.seq (.seq (.region [⟨(some 12),(.mov (.tmp 8)),none⟩,⟨(some 13),(.mov (.tmp 2)),none⟩,⟨(some 14),(.bin .lss 3 (.tmp 12) (.tmp 13)),none⟩] false []) (.cond (.tmp 14) .skip (.exit 0))) (.seq (.block 1 (.seq (.region [⟨(some 17),(.mov (.tmp 8)),none⟩,⟨(some 9),(.mov (.tmp 17)),none⟩] false []) (.block 2 (.loop c131L0)))) c131R1))
def c131 : ACode:=(.seq (.region [⟨(some 10),(.mov (.tmp 1)),none⟩,⟨(some 11),(.bin .add 3 (.tmp 10) (.const (.int .i64 1))),none⟩,⟨(some 8),(.mov (.tmp 11)),none⟩] false []) (.block 0 (.loop c131L2)))
def r131 : List ARes:=[]
theorem clos0 (a1 a2 b1 b2 : Int) (W : World) : Calls Go.Proofs.Tryz.prog 100 #[.agg #[.int .i64 a1,.int .i64 a2],.agg #[.int .i64 b1,.int .i64 b2]] W fun e w' => e = .returned (.int .i64 (IntKind.i64.wrap (a1 - b1))) ∧ ∃ q os',w' = grow (W.drewN q) os':=by
 go_enter Tryz.func100,Tryz.ntmps100
 go_wp2_with (fail)
 go_ret
 refine ⟨?_,0,_,by rw [alloc_eq_grow,alloc_eq_grow,grow_grow]; rfl⟩
 rw [Go.IntWalk.i64_left]
 rfl
theorem closR (x y : SR) (W : World) : Calls Go.Proofs.Tryz.prog 100 #[.agg (srE x).toArray,.agg (srE y).toArray] W fun e w' => e = .returned (.int .i64 (srCf x y)) ∧ ∃ q os',w' = grow (W.drewN q) os':=by
 have wr : IntKind.i64.wrap (x.1.1 - y.1.1) = srCf x y:=by
  have h1:=x.2
  have h2:=y.2
  unfold srCf
  exact wrap_i64 (by omega)
 rw [← wr]
 exact clos0 x.1.1 x.1.2 y.1.1 y.1.2 W
def lenP : List AV → Option AV
 | [.sc (.int .u64 0)] => some (.sc (.int .i64 0))
 | _ => none
theorem lenP_ok : PPrimOk Go.Proofs.Tryz.prog 124 lenP:=by
 intro args r h m F H w vs hI hl hv
 unfold lenP at h
 split at h
 ·cases h
  have h0:=(vr_sc (m:=m) (.fz (hv 0 _ rfl))).1
  obtain rfl : vs = #[.int .u64 0]:=by
   refine Array.ext (by simpa using hl) fun i h1 h2 => ?_
   simp at h2
   subst h2
   simpa [Array.getD_eq_getD_getElem?,h1] using h0
  refine .inl ⟨enters_of Tryz.func124 (by kernel_rfl) rfl _ _,?_⟩
  have hb:=Any.bits_Len (SlLaysF0.n15.bits (P:=Go.Proofs.Tryz.prog) (ρ:=Tryz.sortRun_ren) { Tryz.sortRun with }) 0 w (by omega) (by omega)
  refine hb.mono fun e w' ⟨he,hw⟩ => ?_
  subst hw
  exact ⟨_,m,F,he,.fz (.sc rfl),hI,Ext.refl m F _,Grew.refl m H⟩
 ·cases h
def ftZ : FT
 | 99 => some (.go true 14 r99 c99)
 | 123 => some (.go true 148 r123 c123)
 | 131 => some (.go true 53 r131 c131)
 | 124 => some (.pprim lenP)
 | _ => none
theorem fcZ99 : compF Go.Proofs.Tryz.prog 99 = some (14,r99,c99):=by rfl
theorem fcZ123 : compF Go.Proofs.Tryz.prog 123 = some (148,r123,c123):=by rfl
theorem fcZ131 : compF Go.Proofs.Tryz.prog 131 = some (53,r131,c131):=by rfl
theorem fnZ99 : (Go.Proofs.Tryz.prog.funcs[99]?).all (fun fn => !(fn.name == "runtime.NumGoroutine")) = true:=by kernel_rfl
theorem fnZ123 : (Go.Proofs.Tryz.prog.funcs[123]?).all (fun fn => !(fn.name == "runtime.NumGoroutine")) = true:=by kernel_rfl
theorem fnZ131 : (Go.Proofs.Tryz.prog.funcs[131]?).all (fun fn => !(fn.name == "runtime.NumGoroutine")) = true:=by kernel_rfl
theorem ftZ_ok : FTOk Go.Proofs.Tryz.prog ftZ:=by
 intro k d h
 unfold ftZ at h
 split at h
 ·cases h; exact go_ok fcZ99 fnZ99
 ·cases h; exact go_ok fcZ123 fnZ123
 ·cases h; exact go_ok fcZ131 fnZ131
 ·cases h; exact lenP_ok
 ·cases h
def clF : AV:=.fn (.func 100) [] []
theorem e131 (H : Heap) : callL ftZ (.fn (.func 131) [] []) [.lst [],int 0,int 0,clF] H = some (.tup [],H):=by
 refine call_p (as':=[.lst [],int 0,int 0,clF]) rfl rfl (by simp) ?_
 unfold c131 r131
 have w01 : IntKind.i64.wrap (0 + 1) = 1:=rfl
 have z0 : frz FZ (hx Heap.empty []) (retV []) = some (.tup [],hx Heap.empty []):=rfl
 simp only [↓vp,vz,Nat.reduceLT,Nat.reduceEqDiff,Nat.reduceLeDiff,Nat.reduceAdd,Nat.reduceSub,Nat.reduceMul,Int.reduceBEq,Int.reduceBNe,Int.reduceLT,Int.reduceLE,Int.reduceEq,reduceIte,reduceCtorEq,da,int,boolA]
 rw [AW_loop]
 unfold c131L2
 simp only [↓vp,vz,Nat.reduceLT,Nat.reduceEqDiff,Nat.reduceLeDiff,Nat.reduceAdd,Nat.reduceSub,Nat.reduceMul,Int.reduceBEq,Int.reduceBNe,Int.reduceLT,Int.reduceLE,Int.reduceEq,reduceIte,reduceCtorEq,da,int,boolA,w01]
 exact ⟨rfl,_,_,rfl,rfl⟩
theorem e123 (H : Heap) : callL ftZ (.fn (.func 123) [] []) [.lst [],int 0,int 0,int 0,clF] H = some (.tup [],H):=by
 refine call_p (as':=[.lst [],int 0,int 0,int 0,clF]) rfl rfl (by simp) ?_
 unfold c123 r123
 have w00 : IntKind.i64.wrap (0 - 0) = 0:=rfl
 have k131:=fun K L Q => @KW_of ftZ _ _ _ Q _ _ (e131 (hx K L))
 simp only [int] at k131
 simp only [↓vp,vz,Nat.reduceLT,Nat.reduceEqDiff,Nat.reduceLeDiff,Nat.reduceAdd,Nat.reduceSub,Nat.reduceMul,Int.reduceBEq,Int.reduceBNe,Int.reduceLT,Int.reduceLE,Int.reduceEq,reduceIte,reduceCtorEq,da,int,boolA]
 rw [AW_loop]
 unfold c123L0
 simp only [↓vp,vz,Nat.reduceLT,Nat.reduceEqDiff,Nat.reduceLeDiff,Nat.reduceAdd,Nat.reduceSub,Nat.reduceMul,Int.reduceBEq,Int.reduceBNe,Int.reduceLT,Int.reduceLE,Int.reduceEq,reduceIte,reduceCtorEq,da,int,boolA,w00,k131]
 exact ⟨rfl,_,_,rfl,rfl⟩
theorem e99 (H : Heap) : callL ftZ (.fn (.func 99) [] []) [.lst [],clF] H = some (.tup [],H):=by
 refine call_p (as':=[.lst [],clF]) rfl rfl (by simp) ?_
 unfold c99 r99
 have k123:=fun K L Q => @KW_of ftZ _ _ _ Q _ _ (e123 (hx K L))
 have k124 : ∀ K L Q,KW ftZ (.fn (.func 124) [] []) [.sc (.int .u64 0)] (hx K L) Q ↔ Q (.sc (.int .i64 0)) (hx K L):=fun K L Q => KW_of (call_pprim (p:=lenP) rfl rfl rfl)
 have l0 : ∀ H,lenV H 0 (.lst []) = some (.sc (.int .i64 0),H):=fun _ => rfl
 simp only [int] at k123
 simp only [↓vp,vz,Nat.reduceLT,Nat.reduceEqDiff,Nat.reduceLeDiff,Nat.reduceAdd,Nat.reduceSub,Nat.reduceMul,Int.reduceBEq,Int.reduceBNe,Int.reduceLT,Int.reduceLE,Int.reduceEq,reduceIte,reduceCtorEq,da,int,boolA,l0,(show IntKind.u64.wrap 0 = 0 from rfl),k124,k123]
 exact ⟨rfl,_,_,rfl,rfl⟩
theorem sort99 : PrimOk Go.Proofs.Tryz.prog 99 (sortP 100):=by
 refine sortP_ok Tryz.sortRun rfl (fun w => ?_) (fun w => ?_) ?_ ?_ closR (goP_ok (k:=99) (by kernel_rfl) ftZ_ok ⟨_,_,_,rfl⟩) ?_
 ·exact Go.Proofs.Tryz.isAgg60 w
 ·exact Go.Proofs.Tryz.sizeOf60 w
 ·exact Tryz.sortRun.f6.enters rfl
 ·exact enters_of Tryz.func100 (by kernel_rfl) rfl
 ·unfold goP
  have hc : closedL [.lst [],.fn (.func 100) [] []] = true:=rfl
  rw [if_pos hc]
  have:=e99 Heap.empty
  unfold clF at this
  rw [this]
  rfl
end Go.VI
namespace Go.VI
theorem fc9 : compF Go.Proofs.Tryz.prog 9 = some (116,r9,c9):=by kernel_rfl
theorem fn9 : (Go.Proofs.Tryz.prog.funcs[9]?).all (fun fn => !(fn.name == "runtime.NumGoroutine")) = true:=by kernel_rfl
theorem fc11 : compF Go.Proofs.Tryz.prog 11 = some (17,r11,c11):=by kernel_rfl
theorem fn11 : (Go.Proofs.Tryz.prog.funcs[11]?).all (fun fn => !(fn.name == "runtime.NumGoroutine")) = true:=by kernel_rfl
theorem fc15 : compF Go.Proofs.Tryz.prog 15 = some (44,r15,c15):=by kernel_rfl
theorem fn15 : (Go.Proofs.Tryz.prog.funcs[15]?).all (fun fn => !(fn.name == "runtime.NumGoroutine")) = true:=by kernel_rfl
theorem fc16 : compF Go.Proofs.Tryz.prog 16 = some (51,r16,c16):=by kernel_rfl
theorem fn16 : (Go.Proofs.Tryz.prog.funcs[16]?).all (fun fn => !(fn.name == "runtime.NumGoroutine")) = true:=by kernel_rfl
theorem fc17 : compF Go.Proofs.Tryz.prog 17 = some (37,r17,c17):=by kernel_rfl
theorem fn17 : (Go.Proofs.Tryz.prog.funcs[17]?).all (fun fn => !(fn.name == "runtime.NumGoroutine")) = true:=by kernel_rfl
theorem fc18 : compF Go.Proofs.Tryz.prog 18 = some (36,r18,c18):=by kernel_rfl
theorem fn18 : (Go.Proofs.Tryz.prog.funcs[18]?).all (fun fn => !(fn.name == "runtime.NumGoroutine")) = true:=by kernel_rfl
theorem fc20 : compF Go.Proofs.Tryz.prog 20 = some (21,r20,c20):=by kernel_rfl
theorem fn20 : (Go.Proofs.Tryz.prog.funcs[20]?).all (fun fn => !(fn.name == "runtime.NumGoroutine")) = true:=by kernel_rfl
theorem fc21 : compF Go.Proofs.Tryz.prog 21 = some (59,r21,c21):=by kernel_rfl
theorem fn21 : (Go.Proofs.Tryz.prog.funcs[21]?).all (fun fn => !(fn.name == "runtime.NumGoroutine")) = true:=by kernel_rfl
theorem fc23 : compF Go.Proofs.Tryz.prog 23 = some (17,r23,c23):=by kernel_rfl
theorem fn23 : (Go.Proofs.Tryz.prog.funcs[23]?).all (fun fn => !(fn.name == "runtime.NumGoroutine")) = true:=by kernel_rfl
theorem fc24 : compF Go.Proofs.Tryz.prog 24 = some (25,r24,c24):=by kernel_rfl
theorem fn24 : (Go.Proofs.Tryz.prog.funcs[24]?).all (fun fn => !(fn.name == "runtime.NumGoroutine")) = true:=by kernel_rfl
theorem fc25 : compF Go.Proofs.Tryz.prog 25 = some (8,r25,c25):=by kernel_rfl
theorem fn25 : (Go.Proofs.Tryz.prog.funcs[25]?).all (fun fn => !(fn.name == "runtime.NumGoroutine")) = true:=by kernel_rfl
theorem fc26 : compF Go.Proofs.Tryz.prog 26 = some (10,r26,c26):=by kernel_rfl
theorem fn26 : (Go.Proofs.Tryz.prog.funcs[26]?).all (fun fn => !(fn.name == "runtime.NumGoroutine")) = true:=by kernel_rfl
theorem fc27 : compF Go.Proofs.Tryz.prog 27 = some (19,r27,c27):=by kernel_rfl
theorem fn27 : (Go.Proofs.Tryz.prog.funcs[27]?).all (fun fn => !(fn.name == "runtime.NumGoroutine")) = true:=by kernel_rfl
theorem fc28 : compF Go.Proofs.Tryz.prog 28 = some (42,r28,c28):=by kernel_rfl
theorem fn28 : (Go.Proofs.Tryz.prog.funcs[28]?).all (fun fn => !(fn.name == "runtime.NumGoroutine")) = true:=by kernel_rfl
theorem fc29 : compF Go.Proofs.Tryz.prog 29 = some (9,r29,c29):=by kernel_rfl
theorem fn29 : (Go.Proofs.Tryz.prog.funcs[29]?).all (fun fn => !(fn.name == "runtime.NumGoroutine")) = true:=by kernel_rfl
theorem fc30 : compF Go.Proofs.Tryz.prog 30 = some (94,r30,c30):=by kernel_rfl
theorem fn30 : (Go.Proofs.Tryz.prog.funcs[30]?).all (fun fn => !(fn.name == "runtime.NumGoroutine")) = true:=by kernel_rfl
theorem fc31 : compF Go.Proofs.Tryz.prog 31 = some (93,r31,c31):=by kernel_rfl
theorem fn31 : (Go.Proofs.Tryz.prog.funcs[31]?).all (fun fn => !(fn.name == "runtime.NumGoroutine")) = true:=by kernel_rfl
theorem fc32 : compF Go.Proofs.Tryz.prog 32 = some (24,r32,c32):=by kernel_rfl
theorem fn32 : (Go.Proofs.Tryz.prog.funcs[32]?).all (fun fn => !(fn.name == "runtime.NumGoroutine")) = true:=by kernel_rfl
theorem fc33 : compF Go.Proofs.Tryz.prog 33 = some (40,r33,c33):=by kernel_rfl
theorem fn33 : (Go.Proofs.Tryz.prog.funcs[33]?).all (fun fn => !(fn.name == "runtime.NumGoroutine")) = true:=by kernel_rfl
theorem fc35 : compF Go.Proofs.Tryz.prog 35 = some (26,r35,c35):=by kernel_rfl
theorem fn35 : (Go.Proofs.Tryz.prog.funcs[35]?).all (fun fn => !(fn.name == "runtime.NumGoroutine")) = true:=by kernel_rfl
theorem fc44 : compF Go.Proofs.Tryz.prog 44 = some (29,r44,c44):=by kernel_rfl
theorem fn44 : (Go.Proofs.Tryz.prog.funcs[44]?).all (fun fn => !(fn.name == "runtime.NumGoroutine")) = true:=by kernel_rfl
theorem fc45 : compF Go.Proofs.Tryz.prog 45 = some (19,r45,c45):=by kernel_rfl
theorem fn45 : (Go.Proofs.Tryz.prog.funcs[45]?).all (fun fn => !(fn.name == "runtime.NumGoroutine")) = true:=by kernel_rfl
theorem fc46 : compF Go.Proofs.Tryz.prog 46 = some (9,r46,c46):=by kernel_rfl
theorem fn46 : (Go.Proofs.Tryz.prog.funcs[46]?).all (fun fn => !(fn.name == "runtime.NumGoroutine")) = true:=by kernel_rfl
theorem fc47 : compF Go.Proofs.Tryz.prog 47 = some (11,r47,c47):=by kernel_rfl
theorem fn47 : (Go.Proofs.Tryz.prog.funcs[47]?).all (fun fn => !(fn.name == "runtime.NumGoroutine")) = true:=by kernel_rfl
theorem fc48 : compF Go.Proofs.Tryz.prog 48 = some (9,r48,c48):=by kernel_rfl
theorem fn48 : (Go.Proofs.Tryz.prog.funcs[48]?).all (fun fn => !(fn.name == "runtime.NumGoroutine")) = true:=by kernel_rfl
theorem fc49 : compF Go.Proofs.Tryz.prog 49 = some (32,r49,c49):=by kernel_rfl
theorem fn49 : (Go.Proofs.Tryz.prog.funcs[49]?).all (fun fn => !(fn.name == "runtime.NumGoroutine")) = true:=by kernel_rfl
theorem fc50 : compF Go.Proofs.Tryz.prog 50 = some (98,r50,c50):=by kernel_rfl
theorem fn50 : (Go.Proofs.Tryz.prog.funcs[50]?).all (fun fn => !(fn.name == "runtime.NumGoroutine")) = true:=by kernel_rfl
theorem fc51 : compF Go.Proofs.Tryz.prog 51 = some (50,r51,c51):=by kernel_rfl
theorem fn51 : (Go.Proofs.Tryz.prog.funcs[51]?).all (fun fn => !(fn.name == "runtime.NumGoroutine")) = true:=by kernel_rfl
theorem fc52 : compF Go.Proofs.Tryz.prog 52 = some (32,r52,c52):=by kernel_rfl
theorem fn52 : (Go.Proofs.Tryz.prog.funcs[52]?).all (fun fn => !(fn.name == "runtime.NumGoroutine")) = true:=by kernel_rfl
theorem fc53 : compF Go.Proofs.Tryz.prog 53 = some (24,r53,c53):=by kernel_rfl
theorem fn53 : (Go.Proofs.Tryz.prog.funcs[53]?).all (fun fn => !(fn.name == "runtime.NumGoroutine")) = true:=by kernel_rfl
theorem fc55 : compF Go.Proofs.Tryz.prog 55 = some (7,r55,c55):=by kernel_rfl
theorem fn55 : (Go.Proofs.Tryz.prog.funcs[55]?).all (fun fn => !(fn.name == "runtime.NumGoroutine")) = true:=by kernel_rfl
theorem fc57 : compF Go.Proofs.Tryz.prog 57 = some (57,r57,c57):=by kernel_rfl
theorem fn57 : (Go.Proofs.Tryz.prog.funcs[57]?).all (fun fn => !(fn.name == "runtime.NumGoroutine")) = true:=by kernel_rfl
theorem fc58 : compF Go.Proofs.Tryz.prog 58 = some (22,r58,c58):=by kernel_rfl
theorem fn58 : (Go.Proofs.Tryz.prog.funcs[58]?).all (fun fn => !(fn.name == "runtime.NumGoroutine")) = true:=by kernel_rfl
theorem fc59 : compF Go.Proofs.Tryz.prog 59 = some (11,r59,c59):=by kernel_rfl
theorem fn59 : (Go.Proofs.Tryz.prog.funcs[59]?).all (fun fn => !(fn.name == "runtime.NumGoroutine")) = true:=by kernel_rfl
theorem fc60 : compF Go.Proofs.Tryz.prog 60 = some (8,r60,c60):=by kernel_rfl
theorem fn60 : (Go.Proofs.Tryz.prog.funcs[60]?).all (fun fn => !(fn.name == "runtime.NumGoroutine")) = true:=by kernel_rfl
theorem fc61 : compF Go.Proofs.Tryz.prog 61 = some (49,r61,c61):=by kernel_rfl
theorem fn61 : (Go.Proofs.Tryz.prog.funcs[61]?).all (fun fn => !(fn.name == "runtime.NumGoroutine")) = true:=by kernel_rfl
theorem fc62 : compF Go.Proofs.Tryz.prog 62 = some (8,r62,c62):=by kernel_rfl
theorem fn62 : (Go.Proofs.Tryz.prog.funcs[62]?).all (fun fn => !(fn.name == "runtime.NumGoroutine")) = true:=by kernel_rfl
theorem fc63 : compF Go.Proofs.Tryz.prog 63 = some (12,r63,c63):=by kernel_rfl
theorem fn63 : (Go.Proofs.Tryz.prog.funcs[63]?).all (fun fn => !(fn.name == "runtime.NumGoroutine")) = true:=by kernel_rfl
theorem fc64 : compF Go.Proofs.Tryz.prog 64 = some (5,r64,c64):=by kernel_rfl
theorem fn64 : (Go.Proofs.Tryz.prog.funcs[64]?).all (fun fn => !(fn.name == "runtime.NumGoroutine")) = true:=by kernel_rfl
theorem fc65 : compF Go.Proofs.Tryz.prog 65 = some (7,r65,c65):=by kernel_rfl
theorem fn65 : (Go.Proofs.Tryz.prog.funcs[65]?).all (fun fn => !(fn.name == "runtime.NumGoroutine")) = true:=by kernel_rfl
theorem fc66 : compF Go.Proofs.Tryz.prog 66 = some (6,r66,c66):=by kernel_rfl
theorem fn66 : (Go.Proofs.Tryz.prog.funcs[66]?).all (fun fn => !(fn.name == "runtime.NumGoroutine")) = true:=by kernel_rfl
theorem fc67 : compF Go.Proofs.Tryz.prog 67 = some (65,r67,c67):=by kernel_rfl
theorem fn67 : (Go.Proofs.Tryz.prog.funcs[67]?).all (fun fn => !(fn.name == "runtime.NumGoroutine")) = true:=by kernel_rfl
theorem fc68 : compF Go.Proofs.Tryz.prog 68 = some (90,r68,c68):=by kernel_rfl
theorem fn68 : (Go.Proofs.Tryz.prog.funcs[68]?).all (fun fn => !(fn.name == "runtime.NumGoroutine")) = true:=by kernel_rfl
theorem fc69 : compF Go.Proofs.Tryz.prog 69 = some (36,r69,c69):=by kernel_rfl
theorem fn69 : (Go.Proofs.Tryz.prog.funcs[69]?).all (fun fn => !(fn.name == "runtime.NumGoroutine")) = true:=by kernel_rfl
theorem fc83 : compF Go.Proofs.Tryz.prog 83 = some (9,r83,c83):=by kernel_rfl
theorem fn83 : (Go.Proofs.Tryz.prog.funcs[83]?).all (fun fn => !(fn.name == "runtime.NumGoroutine")) = true:=by kernel_rfl
theorem fc84 : compF Go.Proofs.Tryz.prog 84 = some (9,r84,c84):=by kernel_rfl
theorem fn84 : (Go.Proofs.Tryz.prog.funcs[84]?).all (fun fn => !(fn.name == "runtime.NumGoroutine")) = true:=by kernel_rfl
theorem fc85 : compF Go.Proofs.Tryz.prog 85 = some (29,r85,c85):=by kernel_rfl
theorem fn85 : (Go.Proofs.Tryz.prog.funcs[85]?).all (fun fn => !(fn.name == "runtime.NumGoroutine")) = true:=by kernel_rfl
theorem fc86 : compF Go.Proofs.Tryz.prog 86 = some (9,r86,c86):=by kernel_rfl
theorem fn86 : (Go.Proofs.Tryz.prog.funcs[86]?).all (fun fn => !(fn.name == "runtime.NumGoroutine")) = true:=by kernel_rfl
theorem fc87 : compF Go.Proofs.Tryz.prog 87 = some (14,r87,c87):=by kernel_rfl
theorem fn87 : (Go.Proofs.Tryz.prog.funcs[87]?).all (fun fn => !(fn.name == "runtime.NumGoroutine")) = true:=by kernel_rfl
theorem fc88 : compF Go.Proofs.Tryz.prog 88 = some (35,r88,c88):=by kernel_rfl
theorem fn88 : (Go.Proofs.Tryz.prog.funcs[88]?).all (fun fn => !(fn.name == "runtime.NumGoroutine")) = true:=by kernel_rfl
theorem fc89 : compF Go.Proofs.Tryz.prog 89 = some (15,r89,c89):=by kernel_rfl
theorem fn89 : (Go.Proofs.Tryz.prog.funcs[89]?).all (fun fn => !(fn.name == "runtime.NumGoroutine")) = true:=by kernel_rfl
theorem fc90 : compF Go.Proofs.Tryz.prog 90 = some (55,r90,c90):=by kernel_rfl
theorem fn90 : (Go.Proofs.Tryz.prog.funcs[90]?).all (fun fn => !(fn.name == "runtime.NumGoroutine")) = true:=by kernel_rfl
theorem fc94 : compF Go.Proofs.Tryz.prog 94 = some (42,r94,c94):=by kernel_rfl
theorem fn94 : (Go.Proofs.Tryz.prog.funcs[94]?).all (fun fn => !(fn.name == "runtime.NumGoroutine")) = true:=by kernel_rfl
theorem fc95 : compF Go.Proofs.Tryz.prog 95 = some (19,r95,c95):=by kernel_rfl
theorem fn95 : (Go.Proofs.Tryz.prog.funcs[95]?).all (fun fn => !(fn.name == "runtime.NumGoroutine")) = true:=by kernel_rfl
theorem fc96 : compF Go.Proofs.Tryz.prog 96 = some (16,r96,c96):=by kernel_rfl
theorem fn96 : (Go.Proofs.Tryz.prog.funcs[96]?).all (fun fn => !(fn.name == "runtime.NumGoroutine")) = true:=by kernel_rfl
theorem fc97 : compF Go.Proofs.Tryz.prog 97 = some (8,r97,c97):=by kernel_rfl
theorem fn97 : (Go.Proofs.Tryz.prog.funcs[97]?).all (fun fn => !(fn.name == "runtime.NumGoroutine")) = true:=by kernel_rfl
theorem fc98 : compF Go.Proofs.Tryz.prog 98 = some (31,r98,c98):=by kernel_rfl
theorem fn98 : (Go.Proofs.Tryz.prog.funcs[98]?).all (fun fn => !(fn.name == "runtime.NumGoroutine")) = true:=by kernel_rfl
theorem fc100 : compF Go.Proofs.Tryz.prog 100 = some (10,r100,c100):=by kernel_rfl
theorem fn100 : (Go.Proofs.Tryz.prog.funcs[100]?).all (fun fn => !(fn.name == "runtime.NumGoroutine")) = true:=by kernel_rfl
theorem fc101 : compF Go.Proofs.Tryz.prog 101 = some (15,r101,c101):=by kernel_rfl
theorem fn101 : (Go.Proofs.Tryz.prog.funcs[101]?).all (fun fn => !(fn.name == "runtime.NumGoroutine")) = true:=by kernel_rfl
theorem fc102 : compF Go.Proofs.Tryz.prog 102 = some (9,r102,c102):=by kernel_rfl
theorem fn102 : (Go.Proofs.Tryz.prog.funcs[102]?).all (fun fn => !(fn.name == "runtime.NumGoroutine")) = true:=by kernel_rfl
theorem fc103 : compF Go.Proofs.Tryz.prog 103 = some (8,r103,c103):=by kernel_rfl
theorem fn103 : (Go.Proofs.Tryz.prog.funcs[103]?).all (fun fn => !(fn.name == "runtime.NumGoroutine")) = true:=by kernel_rfl
theorem fc105 : compF Go.Proofs.Tryz.prog 105 = some (4,r105,c105):=by kernel_rfl
theorem fn105 : (Go.Proofs.Tryz.prog.funcs[105]?).all (fun fn => !(fn.name == "runtime.NumGoroutine")) = true:=by kernel_rfl
theorem fc106 : compF Go.Proofs.Tryz.prog 106 = some (53,r106,c106):=by kernel_rfl
theorem fn106 : (Go.Proofs.Tryz.prog.funcs[106]?).all (fun fn => !(fn.name == "runtime.NumGoroutine")) = true:=by kernel_rfl
theorem fc107 : compF Go.Proofs.Tryz.prog 107 = some (14,r107,c107):=by kernel_rfl
theorem fn107 : (Go.Proofs.Tryz.prog.funcs[107]?).all (fun fn => !(fn.name == "runtime.NumGoroutine")) = true:=by kernel_rfl
theorem fc108 : compF Go.Proofs.Tryz.prog 108 = some (23,r108,c108):=by kernel_rfl
theorem fn108 : (Go.Proofs.Tryz.prog.funcs[108]?).all (fun fn => !(fn.name == "runtime.NumGoroutine")) = true:=by kernel_rfl
theorem fc109 : compF Go.Proofs.Tryz.prog 109 = some (27,r109,c109):=by kernel_rfl
theorem fn109 : (Go.Proofs.Tryz.prog.funcs[109]?).all (fun fn => !(fn.name == "runtime.NumGoroutine")) = true:=by kernel_rfl
theorem fc114 : compF Go.Proofs.Tryz.prog 114 = some (6,r114,c114):=by kernel_rfl
theorem fn114 : (Go.Proofs.Tryz.prog.funcs[114]?).all (fun fn => !(fn.name == "runtime.NumGoroutine")) = true:=by kernel_rfl
theorem fc115 : compF Go.Proofs.Tryz.prog 115 = some (19,r115,c115):=by kernel_rfl
theorem fn115 : (Go.Proofs.Tryz.prog.funcs[115]?).all (fun fn => !(fn.name == "runtime.NumGoroutine")) = true:=by kernel_rfl
theorem fc116 : compF Go.Proofs.Tryz.prog 116 = some (31,r116,c116):=by kernel_rfl
theorem fn116 : (Go.Proofs.Tryz.prog.funcs[116]?).all (fun fn => !(fn.name == "runtime.NumGoroutine")) = true:=by kernel_rfl
theorem fc117 : compF Go.Proofs.Tryz.prog 117 = some (26,r117,c117):=by kernel_rfl
theorem fn117 : (Go.Proofs.Tryz.prog.funcs[117]?).all (fun fn => !(fn.name == "runtime.NumGoroutine")) = true:=by kernel_rfl
theorem fc118 : compF Go.Proofs.Tryz.prog 118 = some (12,r118,c118):=by kernel_rfl
theorem fn118 : (Go.Proofs.Tryz.prog.funcs[118]?).all (fun fn => !(fn.name == "runtime.NumGoroutine")) = true:=by kernel_rfl
theorem fc119 : compF Go.Proofs.Tryz.prog 119 = some (31,r119,c119):=by kernel_rfl
theorem fn119 : (Go.Proofs.Tryz.prog.funcs[119]?).all (fun fn => !(fn.name == "runtime.NumGoroutine")) = true:=by kernel_rfl
theorem fc125 : compF Go.Proofs.Tryz.prog 125 = some (15,r125,c125):=by kernel_rfl
theorem fn125 : (Go.Proofs.Tryz.prog.funcs[125]?).all (fun fn => !(fn.name == "runtime.NumGoroutine")) = true:=by kernel_rfl
theorem fc126 : compF Go.Proofs.Tryz.prog 126 = some (19,r126,c126):=by kernel_rfl
theorem fn126 : (Go.Proofs.Tryz.prog.funcs[126]?).all (fun fn => !(fn.name == "runtime.NumGoroutine")) = true:=by kernel_rfl
theorem fc128 : compF Go.Proofs.Tryz.prog 128 = some (14,r128,c128):=by kernel_rfl
theorem fn128 : (Go.Proofs.Tryz.prog.funcs[128]?).all (fun fn => !(fn.name == "runtime.NumGoroutine")) = true:=by kernel_rfl
theorem fc129 : compF Go.Proofs.Tryz.prog 129 = some (14,r129,c129):=by kernel_rfl
theorem fn129 : (Go.Proofs.Tryz.prog.funcs[129]?).all (fun fn => !(fn.name == "runtime.NumGoroutine")) = true:=by kernel_rfl
theorem fc54 : compF Go.Proofs.Tryz.prog 54 = some (8,r54,c54):=by kernel_rfl
theorem fn54 : (Go.Proofs.Tryz.prog.funcs[54]?).all (fun fn => !(fn.name == "runtime.NumGoroutine")) = true:=by kernel_rfl
theorem fc56 : compF Go.Proofs.Tryz.prog 56 = some (8,r56,c56):=by kernel_rfl
theorem fn56 : (Go.Proofs.Tryz.prog.funcs[56]?).all (fun fn => !(fn.name == "runtime.NumGoroutine")) = true:=by kernel_rfl
theorem fc104 : compF Go.Proofs.Tryz.prog 104 = some (8,r104,c104):=by kernel_rfl
theorem fn104 : (Go.Proofs.Tryz.prog.funcs[104]?).all (fun fn => !(fn.name == "runtime.NumGoroutine")) = true:=by kernel_rfl
theorem fc8 : compF Go.Proofs.Tryz.prog 8 = some (97,r8,c8):=by kernel_rfl
theorem fn8 : (Go.Proofs.Tryz.prog.funcs[8]?).all (fun fn => !(fn.name == "runtime.NumGoroutine")) = true:=by kernel_rfl
theorem follows : Go.Proofs.Tryz.prog.follows .mixedOrders = true:=by kernel_rfl
def zR : List AV:=[.sc (.int .i64 0),.sc (.int .i64 0)]
theorem t_cloR : c56 = cloC 2 16 zR:=rfl
theorem t_cloB : c104 = cloC 1 1 [.sc (.int .u8 0)]:=rfl
theorem g56 : GoFn Go.Proofs.Tryz.prog 56 8 [.tmp 2] (cloC 2 16 zR):=by
 have h:=go_ok fc56 fn56
 rw [t_cloR] at h
 exact h
theorem g104 : GoFn Go.Proofs.Tryz.prog 104 8 [.tmp 2] (cloC 1 1 [.sc (.int .u8 0)]):=by
 have h:=go_ok fc104 fn104
 rw [t_cloB] at h
 exact h
theorem ft_ok : FTOk Go.Proofs.Tryz.prog ft:=by
 intro k d h
 unfold ft at h
 split at h
 ·cases h; exact go_ok fc9 fn9
 ·cases h; exact go_ok fc11 fn11
 ·cases h; exact go_ok fc15 fn15
 ·cases h; exact go_ok fc16 fn16
 ·cases h; exact go_ok fc17 fn17
 ·cases h; exact go_ok fc18 fn18
 ·cases h; exact go_ok fc20 fn20
 ·cases h; exact go_ok fc21 fn21
 ·cases h; exact go_ok fc23 fn23
 ·cases h; exact go_ok fc24 fn24
 ·cases h; exact go_ok fc25 fn25
 ·cases h; exact go_ok fc26 fn26
 ·cases h; exact go_ok fc27 fn27
 ·cases h; exact go_ok fc28 fn28
 ·cases h; exact go_ok fc29 fn29
 ·cases h; exact go_ok fc30 fn30
 ·cases h; exact go_ok fc31 fn31
 ·cases h; exact go_ok fc32 fn32
 ·cases h; exact go_ok fc33 fn33
 ·cases h; exact go_ok fc35 fn35
 ·cases h; exact go_ok fc44 fn44
 ·cases h; exact go_ok fc45 fn45
 ·cases h; exact go_ok fc46 fn46
 ·cases h; exact go_ok fc47 fn47
 ·cases h; exact go_ok fc48 fn48
 ·cases h; exact go_ok fc49 fn49
 ·cases h; exact go_ok fc50 fn50
 ·cases h; exact go_ok fc51 fn51
 ·cases h; exact go_ok fc52 fn52
 ·cases h; exact go_ok fc53 fn53
 ·cases h; exact go_ok fc55 fn55
 ·cases h; exact go_ok fc57 fn57
 ·cases h; exact go_ok fc58 fn58
 ·cases h; exact go_ok fc59 fn59
 ·cases h; exact go_ok fc60 fn60
 ·cases h; exact go_ok fc61 fn61
 ·cases h; exact go_ok fc62 fn62
 ·cases h; exact go_ok fc63 fn63
 ·cases h; exact go_ok fc64 fn64
 ·cases h; exact go_ok fc65 fn65
 ·cases h; exact go_ok fc66 fn66
 ·cases h; exact go_ok fc67 fn67
 ·cases h; exact go_ok fc68 fn68
 ·cases h; exact go_ok fc69 fn69
 ·cases h; exact go_ok fc83 fn83
 ·cases h; exact go_ok fc84 fn84
 ·cases h; exact go_ok fc85 fn85
 ·cases h; exact go_ok fc86 fn86
 ·cases h; exact go_ok fc87 fn87
 ·cases h; exact go_ok fc88 fn88
 ·cases h; exact go_ok fc89 fn89
 ·cases h; exact go_ok fc90 fn90
 ·cases h; exact go_ok fc94 fn94
 ·cases h; exact go_ok fc95 fn95
 ·cases h; exact go_ok fc96 fn96
 ·cases h; exact go_ok fc97 fn97
 ·cases h; exact go_ok fc98 fn98
 ·cases h; exact go_ok fc100 fn100
 ·cases h; exact go_ok fc101 fn101
 ·cases h; exact go_ok fc102 fn102
 ·cases h; exact go_ok fc103 fn103
 ·cases h; exact go_ok fc105 fn105
 ·cases h; exact go_ok fc106 fn106
 ·cases h; exact go_ok fc107 fn107
 ·cases h; exact go_ok fc108 fn108
 ·cases h; exact go_ok fc109 fn109
 ·cases h; exact go_ok fc114 fn114
 ·cases h; exact go_ok fc115 fn115
 ·cases h; exact go_ok fc116 fn116
 ·cases h; exact go_ok fc117 fn117
 ·cases h; exact go_ok fc118 fn118
 ·cases h; exact go_ok fc119 fn119
 ·cases h; exact go_ok fc125 fn125
 ·cases h; exact go_ok fc126 fn126
 ·cases h; exact go_ok fc128 fn128
 ·cases h; exact go_ok fc129 fn129
 ·cases h; exact ecloP_ok follows g56
 ·cases h; exact cloF_ok follows g104
 ·cases h; exact sort99
 ·cases h
theorem ftO_ok : FTOk Go.Proofs.Tryz.prog ftO:=by
 intro k d h
 unfold ftO at h
 split at h
 ·cases h; exact go_ok fc54 fn54
 ·exact ft_ok _ _ h
theorem ftM_ok : FTOk Go.Proofs.Tryz.prog ftM:=by
 intro k d h
 unfold ftM at h
 split at h
 ·cases h; exact roP_ok (goP_ok follows ftO_ok ⟨_,_,_,rfl⟩)
 ·exact ft_ok _ _ h
theorem ftG_ok : FTOk Go.Proofs.Tryz.prog ftG:=by
 intro k d h
 unfold ftG at h
 split at h
 ·cases h; exact goP_ok follows ftM_ok ⟨_,_,_,rfl⟩
 ·cases h; exact goP_ok follows ftM_ok ⟨_,_,_,rfl⟩
 ·cases h; exact goP_ok follows ftM_ok ⟨_,_,_,rfl⟩
 ·cases h; exact goP_ok follows ftM_ok ⟨_,_,_,rfl⟩
 ·cases h; exact goP_ok follows ftM_ok ⟨_,_,_,rfl⟩
 ·cases h; exact goP_ok follows ftM_ok ⟨_,_,_,rfl⟩
 ·cases h; exact goP_ok follows ftM_ok ⟨_,_,_,rfl⟩
 ·cases h; exact goP_ok follows ftM_ok ⟨_,_,_,rfl⟩
 ·cases h; exact goP_ok follows ftM_ok ⟨_,_,_,rfl⟩
 ·cases h; exact goP_ok follows ftM_ok ⟨_,_,_,rfl⟩
 ·exact ft_ok _ _ h
theorem ftG8_ok : FTOk Go.Proofs.Tryz.prog ftG8:=by
 intro k d h
 unfold ftG8 at h
 split at h
 ·cases h; exact go_ok fc8 fn8
 ·exact ftG_ok _ _ h
end Go.VI
namespace Go.VI
theorem RD.mono {P : Program} {W : World} {t : TypeId} {E E' : List AV → Prop} (h : RD P W t E) (hE : ∀ xs,E xs → E' xs) : RD P W t E':=fun H enc base spare held fuel cs x hx hw => by
 obtain ⟨xs,h1,h2⟩:=h H enc base spare held fuel cs x hx hw
 exact ⟨xs,hE xs h1,h2⟩
theorem rows_map {α : Type} {g : α → List AV} {p : α → Prop} : ∀ {rows : List (List AV)},(∀ r ∈ rows,∃ x,r = g x ∧ p x) → ∃ l : List α,rows = l.map g ∧ ∀ x ∈ l,p x
 | [],_ => ⟨[],rfl,by simp⟩
 | r :: rows,h => by
  obtain ⟨x,rfl,hx⟩:=h r List.mem_cons_self
  obtain ⟨l,rfl,hl⟩:=rows_map fun r hr => h r (List.mem_cons_of_mem _ hr)
  exact ⟨x :: l,rfl,fun y hy => by
   rcases List.mem_cons.1 hy with rfl | hy
   ·exact hx
   ·exact hl y hy⟩
theorem CVF.append {F : Fz} {a b : List AV} {cs : List Value} {n : Nat} (hn : n ≤ cs.length) (ha : CVF F a (cs.take n)) (hb : CVF F b (cs.drop n)) : CVF F (a ++ b) cs:=by
 have hla : a.length = n:=by rw [ha.1,List.length_take]; omega
 refine ⟨by rw [List.length_append,hb.1,hla,List.length_drop]; omega,fun i c h => ?_⟩
 by_cases hi : i < n
 ·rw [List.getElem?_append_left (by omega)] at h
  obtain ⟨h1,h2⟩:=ha.2 i c h
  refine ⟨h1,?_⟩
  rwa [List.getD_eq_getElem?_getD,List.getElem?_take_of_lt hi,← List.getD_eq_getElem?_getD] at h2
 ·rw [List.getElem?_append_right (by omega)] at h
  obtain ⟨h1,h2⟩:=hb.2 _ c h
  refine ⟨h1,?_⟩
  rw [List.getD_eq_getElem?_getD,List.getElem?_drop] at h2
  rw [List.getD_eq_getElem?_getD]
  rwa [show n + (i - a.length) = i by omega] at h2
theorem okWide_stc {P : Program} {w : World} {r : Reach} {base : Nat} {t : TypeId} {fs : Array Field} {v : Value} (ht : P.underlying t = some (.struct fs)) (h : Value.okWide P w r base t v) : ∃ cs,v = .agg cs:=by
 unfold Value.okWide at h
 rw [ht] at h
 obtain ⟨cs,h1,_⟩:=h
 exact ⟨cs,h1⟩
def CVA (F : Fz) (xs : List AV) (cs : List Value) : Prop:=xs.length = cs.length ∧ ∀ i c,xs[i]? = some c → VF F c (cs.getD i undef)
theorem CVF.cva {F : Fz} {xs : List AV} {cs : List Value} (h : CVF F xs cs) : CVA F xs cs:=⟨h.1,fun i c hc => (h.2 i c hc).2⟩
theorem CVA.one {F : Fz} {a : AV} {v : Value} (h : VF F a v) : CVA F [a] [v]:=⟨rfl,fun i c hc => by
 cases i with
 | zero => cases hc; exact h
 | succ i => simp at hc⟩
theorem CVA.cons {F : Fz} {a : AV} {v : Value} {l : List AV} {vs : List Value} (h : CVA F [a] [v]) (ht : CVA F l vs) : CVA F (a :: l) (v :: vs):=⟨by simp [ht.1],fun i c hc => by
 cases i with
 | zero => exact h.2 0 c hc
 | succ i => exact ht.2 i c hc⟩
theorem CVA.agg {F : Fz} {xs : List AV} {cs : Array Value} (h : CVF F xs cs.toList) : CVA F [.agg xs] [.agg cs] :=
 .one (.agg (by have:=h.1; simpa using this.symm) (fun i c hc => (h.2 i c hc).1) (fun i c hc => by
  have:=(h.2 i c hc).2
  rwa [List.getD_eq_getElem?_getD,Array.getElem?_toList,← Array.getD_eq_getD_getElem?] at this))
theorem vrs_ofA {F : Fz} {m : Mp} {args : List AV} {vs : List Value} (h : CVA F args vs) : VRs m F args vs.toArray:=by
 refine ⟨?_,?_⟩
 ·simp [h.1]
 ·intro i c hc
  have:=h.2 i c hc
  simpa using VR.fz this
end Go.VI
namespace Go.VI
open Go.Proofs
variable (W : World)
theorem rdInt : RD Tryz.prog W 3 fun xs => ∃ n,xs = [int n] ∧ (Lit.int .i64 n).wf = true:=rd_int Tryz.underlying3
def okRn (x : RunM) : Prop:=True
theorem rdRn : RD Tryz.prog W 89 fun xs => ∃ x : RunM,xs = runC x ∧ okRn x :=
 (rd_struct (Es:=[_,_]) Tryz.underlying89 (by kernel_rfl) ⟨rdInt W,rdInt W,trivial⟩).mono fun xs h => by
  obtain ⟨_,_,rfl,⟨a,rfl,_⟩,_,_,rfl,⟨b,rfl,_⟩,rfl⟩:=h
  exact ⟨(a,b),rfl,trivial⟩
def okR (l : List RunM) : Prop:=l.length ≤ 100000000000000
theorem rdR : RD Tryz.prog W 36 fun xs => ∃ l : List RunM,xs = [encR l] ∧ okR l :=
 (rd_slice (sz:=2) (B:=16) Tryz.underlying36 (by kernel_rfl) (by decide) (by kernel_rfl) (rdRn W)).mono fun xs ⟨rows,h1,h2,h3⟩ => by
  obtain ⟨l,rfl,hl⟩:=rows_map (g:=runC) (p:=okRn) fun r hr => (h2 r hr).1
  refine ⟨l,h1,?_⟩
  simp only [List.length_map,reachBytes] at h3
  unfold okR
  omega
def encSt (l : List RunM × List RunM) : List AV:=[encR l.1,encR l.2]
def okSt (l : List RunM × List RunM) : Prop:=l.1.length ≤ 100000000000000 ∧ l.2.length ≤ 100000000000000
theorem rdSt : RD Tryz.prog W 38 fun xs => ∃ l : List RunM × List RunM,xs = encSt l ∧ okSt l :=
 (rd_struct (Es:=[_,_]) Tryz.underlying38 (by kernel_rfl) ⟨rdR W,rdR W,trivial⟩).mono fun xs h => by
  obtain ⟨_,_,rfl,⟨a,rfl,ha⟩,_,_,rfl,⟨b,rfl,hb⟩,rfl⟩:=h
  exact ⟨(a,b),rfl,ha,hb⟩
end Go.VI
namespace Go.VI
attribute [local congr] AW_congr OW_congr DW_congr NW_congr VW_congr GW_congr PW_congr KW_congr ite_congr' GV_congr CV_congr KF_congr
theorem fewS_le {f h : List RunM} (e : fewS f h = true) : f.length ≤ 400 ∧ h.length ≤ 400 ∧ f.length + h.length ≤ 400 ∧ sumD f + sumD h ≤ 3000:=by
 unfold fewS at e
 rw [Bool.and_eq_true,decide_eq_true_eq,decide_eq_true_eq] at e
 omega
end Go.VI
namespace Go.VI
attribute [local congr] AW_congr OW_congr DW_congr NW_congr VW_congr GW_congr PW_congr KW_congr ite_congr' GV_congr CV_congr KF_congr
theorem rgt_len : ∀ {l : List RunM} {e : Int},rgtL e l = true → e ≤ 32768 → (l.length : Int) ≤ 32768 - e
 | [],e,_,h => by simp; omega
 | x :: l,e,h,he => by
  obtain ⟨h1,h2,h3⟩:=rgt_cons.1 h
  have m:=mayM_iff.1 h1
  have ex : endM x = x.1 + x.2:=rfl
  have:=rgt_len h3 (by omega)
  simp only [List.length_cons]
  omega
theorem right_len {l : List RunM} (h : rightM l = true) : l.length ≤ 40000:=by
 have:=rgt_len h (by omega)
 omega
theorem endM_gt {x : RunM} (h : mayM x = true) : x.1 < endM x:=by have:=mayM_iff.1 h; unfold endM; omega
theorem in_last {x : RunM} {l : List RunM} (hx : x ∈ l) (h : mayM x = true) : inR l (endM x - 1) = true:=inR_t.2 ⟨x,hx,by have:=endM_gt h; omega,by omega⟩
theorem in_first {x : RunM} {l : List RunM} (hx : x ∈ l) (h : mayM x = true) : inR l x.1 = true:=inR_t.2 ⟨x,hx,by omega,endM_gt h⟩
theorem mayS_t {l : List RunM} (h : mayS l = true) : rightM l = true ∧ ∀ k,inR l k = true → 2 ≤ k ∧ k < endsM l:=by
 unfold mayS at h
 rw [Bool.and_eq_true,Bool.and_eq_true] at h
 obtain ⟨⟨h1,h2⟩,h3⟩:=h
 refine ⟨h1,fun k hk => ⟨?_,?_⟩⟩
 ·obtain ⟨x,hx,q1,q2⟩:=inR_t.1 hk
  cases l with
  | nil => cases hx
  | cons y l =>
   have h4 : 2 ≤ y.1:=by simpa [firstOk] using h3
   have hm:=mayM_iff.1 ((right_iff.1 h1).1 y (by simp))
   unfold rightM at h1
   rw [rgt_cons] at h1
   rcases List.mem_cons.1 hx with rfl | hx
   ·omega
   ·have:=rgt_lt h1.2.2 x hx
    have ex : endM y = y.1 + y.2:=rfl
    omega
 ·have:=endsM_is l
  rw [clean_of h1] at this
  exact this.1 k hk
theorem mayS_of {l : List RunM} {n : Int} (h1 : rightM l = true) (h2 : ∀ k,inR l k = true → 2 ≤ k ∧ k < n) (h0 : 0 ≤ n) (hn : n ≤ 16384) : mayS l = true ∧ endsM l ≤ n:=by
 have he : endsM l ≤ n:=by
  rcases (endsM_is l).2 with ⟨e,_⟩ | ⟨_,e⟩
  ·omega
  ·rw [clean_of h1] at e
   have:=h2 _ e
   omega
 refine ⟨?_,he⟩
 unfold mayS
 rw [h1,decide_eq_true (show endsM l ≤ 16384 by omega)]
 cases l with
 | nil => rfl
 | cons x l =>
  have:=h2 x.1 (in_first (by simp) ((right_iff.1 h1).1 x (by simp)))
  simp [firstOk,this.1]
def badD (x : RunM) : Bool:=decide (x.1 < 2) || decide (IntKind.i64.wrap (x.1 + x.2) > 16384)
theorem mayD_eq (l : List RunM) : (l.all (fun x => !badD x) && rightM l) = mayS l:=by
 cases e : rightM l with
 | false => unfold mayS; rw [e]; simp
 | true =>
  rw [Bool.and_true]
  refine beq_iff' ?_
  rw [List.all_eq_true]
  have hm:=right_iff.1 e
  have hw : ∀ x ∈ l,IntKind.i64.wrap (x.1 + x.2) = x.1 + x.2:=fun x hx => wrap_i64 (by have:=mayM_iff.1 (hm.1 x hx); omega)
  have hb : ∀ x ∈ l,((!badD x) = true ↔ 2 ≤ x.1 ∧ x.1 + x.2 ≤ 16384):=fun x hx => by
   unfold badD
   rw [hw x hx,Bool.not_eq_true',Bool.or_eq_false_iff,decide_eq_false_iff_not,decide_eq_false_iff_not]
   omega
  constructor
  ·intro h
   refine (mayS_of (n:=16384) e (fun k hk => ?_) (by omega) (by omega)).1
   obtain ⟨x,hx,q1,q2⟩:=inR_t.1 hk
   have:=(hb x hx).1 (h x hx)
   have ex : endM x = x.1 + x.2:=rfl
   omega
  ·intro h x hx
   rw [hb x hx]
   have h2:=(mayS_t h).2
   have he : endsM l ≤ 16384:=by
    unfold mayS at h
    rw [Bool.and_eq_true,Bool.and_eq_true,decide_eq_true_eq] at h
    exact h.1.2
   have a:=h2 _ (in_first hx (hm.1 x hx))
   have b:=h2 _ (in_last hx (hm.1 x hx))
   have ex : endM x = x.1 + x.2:=rfl
   omega
theorem l52 (l : List RunM) (hl : l.length ≤ 2000000) {Q : AExit → Env → Heap → Prop}
   (hex : ∀ f' K, l.all (fun x => !badD x) = true → f' 0 = encR l → Q (.exit 0) (mkE 32 f') (hx K []))
   (hret : ∀ f' K, l.all (fun x => !badD x) = false → f' 2 = boolA false → Q .ret (mkE 32 f') (hx K [])) :
   ∀ (d i : Nat) (K : Heap) (f : Nat → AV), i + d = l.length → l.all (fun x => !badD x) = (l.drop i).all (fun x => !badD x) → f 0 = encR l → f 3 = int i →
    AW ftG (.loop c52L0) (mkE 32 f) (hx K []) Q := by
  intro d
  induction d with
  | zero =>
    intro i K f hd hc h0 h3
    have g1 : ((i : Int) < l.length) = False := by simp; omega
    rw [AW_loop]
    unfold c52L0
    rw [List.drop_eq_nil_of_le (by omega)] at hc
    simp only [↓vp, vz, Nat.reduceLT, Nat.reduceEqDiff, Nat.reduceLeDiff, Nat.reduceAdd, Nat.reduceSub, Nat.reduceMul, Int.reduceBEq, Int.reduceBNe, Int.reduceLT, Int.reduceLE, Int.reduceEq, reduceIte, reduceCtorEq, da, int, boolA, dr, h0, h3, g1]
    refine hex _ K (by rw [hc]; rfl) ?_
    simp only [↓vp, vz, Nat.reduceLT, Nat.reduceEqDiff, Nat.reduceLeDiff, Nat.reduceAdd, Nat.reduceSub, Nat.reduceMul, Int.reduceBEq, Int.reduceBNe, Int.reduceLT, Int.reduceLE, Int.reduceEq, reduceIte, reduceCtorEq, da, int, boolA, h0]
  | succ d ih =>
    intro i K f hd hc h0 h3
    have g1 : ((i : Int) < l.length) = True := by simp; omega
    have gi : i < l.length := by omega
    have w1 := wrap_succ (show i < 9223372036854775807 by omega)
    have c0 := fun H => @atR H l i gi
    have c1 := fun H off n => @cR H l i off n gi
    rw [List.drop_eq_getElem_cons gi, List.all_cons] at hc
    generalize l[i] = x at *
    simp only [runC, int] at c1
    rw [AW_loop]
    unfold c52L0
    by_cases q1 : x.1 < 2
    · have hb : badD x = true := by unfold badD; rw [decide_eq_true q1]; rfl
      rw [hb] at hc
      simp only [↓vp, vz, Nat.reduceLT, Nat.reduceEqDiff, Nat.reduceLeDiff, Nat.reduceAdd, Nat.reduceSub, Nat.reduceMul, Int.reduceBEq, Int.reduceBNe, Int.reduceLT, Int.reduceLE, Int.reduceEq, reduceIte, reduceCtorEq, da, int, boolA, dr, h0, h3, g1, c0, c1, w1, eq_true q1]
      refine hret _ _ (by rw [hc]; rfl) ?_
      simp only [↓vp, vz, Nat.reduceLT, Nat.reduceEqDiff, Nat.reduceLeDiff, Nat.reduceAdd, Nat.reduceSub, Nat.reduceMul, Int.reduceBEq, Int.reduceBNe, Int.reduceLT, Int.reduceLE, Int.reduceEq, reduceIte, reduceCtorEq, da, int, boolA]
    · by_cases q2 : IntKind.i64.wrap (x.1 + x.2) > 16384
      · have hb : badD x = true := by unfold badD; rw [decide_eq_true q2]; simp
        rw [hb] at hc
        have d1 : (16384 < IntKind.i64.wrap (x.1 + x.2)) = True := eq_true q2
        simp only [↓vp, vz, Nat.reduceLT, Nat.reduceEqDiff, Nat.reduceLeDiff, Nat.reduceAdd, Nat.reduceSub, Nat.reduceMul, Int.reduceBEq, Int.reduceBNe, Int.reduceLT, Int.reduceLE, Int.reduceEq, reduceIte, reduceCtorEq, da, int, boolA, dr, h0, h3, g1, c0, c1, w1, eq_false q1, eq_true q2, d1]
        refine hret _ _ (by rw [hc]; rfl) ?_
        simp only [↓vp, vz, Nat.reduceLT, Nat.reduceEqDiff, Nat.reduceLeDiff, Nat.reduceAdd, Nat.reduceSub, Nat.reduceMul, Int.reduceBEq, Int.reduceBNe, Int.reduceLT, Int.reduceLE, Int.reduceEq, reduceIte, reduceCtorEq, da, int, boolA]
      · have hb : badD x = false := by unfold badD; rw [decide_eq_false q1, decide_eq_false q2]; rfl
        rw [hb, Bool.not_false, Bool.true_and] at hc
        have d1 : (16384 < IntKind.i64.wrap (x.1 + x.2)) = False := eq_false q2
        simp only [↓vp, vz, Nat.reduceLT, Nat.reduceEqDiff, Nat.reduceLeDiff, Nat.reduceAdd, Nat.reduceSub, Nat.reduceMul, Int.reduceBEq, Int.reduceBNe, Int.reduceLT, Int.reduceLE, Int.reduceEq, reduceIte, reduceCtorEq, da, int, boolA, dr, h0, h3, g1, c0, c1, w1, eq_false q1, eq_false q2, d1]
        refine ih (i + 1) _ _ (by omega) hc ?_ ?_ <;> simp only [↓vp, vz, Nat.reduceLT, Nat.reduceEqDiff, Nat.reduceLeDiff, Nat.reduceAdd, Nat.reduceSub, Nat.reduceMul, Int.reduceBEq, Int.reduceBNe, Int.reduceLT, Int.reduceLE, Int.reduceEq, reduceIte, reduceCtorEq, da, int, boolA, h0]
theorem s52 (l : List RunM) (hl : l.length ≤ 2000000) (H : Heap) : callL ftG (.fn (.func 52) [] []) [encR l] H = some (boolA (mayS l),H):=by
 rw [← mayD_eq]
 refine call_p (as':=[encR l]) rfl rfl (by simp) ?_
 unfold c52 r52
 simp only [↓vp,vz,Nat.reduceLT,Nat.reduceEqDiff,Nat.reduceLeDiff,Nat.reduceAdd,Nat.reduceSub,Nat.reduceMul,Int.reduceBEq,Int.reduceBNe,Int.reduceLT,Int.reduceLE,Int.reduceEq,reduceIte,reduceCtorEq,da,int,boolA,dr]
 rw [← hx_nil (Heap.empty)]
 refine l52 l hl (fun f' K hm h0 => ?_) (fun f' K hm h2 => ?_) l.length 0 _ _ (by simp) rfl ?_ ?_
 ·have k94:=fun H Q => @kG94 H Q l hl
  unfold c52R1
  simp only [boolA] at k94
  simp only [↓vp,vz,Nat.reduceLT,Nat.reduceEqDiff,Nat.reduceLeDiff,Nat.reduceAdd,Nat.reduceSub,Nat.reduceMul,Int.reduceBEq,Int.reduceBNe,Int.reduceLT,Int.reduceLE,Int.reduceEq,reduceIte,reduceCtorEq,da,int,boolA,rt,dr,h0,k94,hm,Bool.true_and]
 ·rw [hm]
  simp only [↓vp,vz,Nat.reduceLT,Nat.reduceEqDiff,Nat.reduceLeDiff,Nat.reduceAdd,Nat.reduceSub,Nat.reduceMul,Int.reduceBEq,Int.reduceBNe,Int.reduceLT,Int.reduceLE,Int.reduceEq,reduceIte,reduceCtorEq,da,int,boolA,rt,h2,Bool.false_and]
 all_goals first | rfl | (simp only [↓vp,vz,Nat.reduceLT,Nat.reduceEqDiff,Nat.reduceLeDiff,Nat.reduceAdd,Nat.reduceSub,Nat.reduceMul,Int.reduceBEq,Int.reduceBNe,Int.reduceLT,Int.reduceLE,Int.reduceEq,reduceIte,reduceCtorEq,da,int,boolA]; done)
def ovD (a b : RunM) : Bool:=decide (a.1 < b.1 + b.2) && decide (b.1 < a.1 + a.2)
theorem meet_ov {f h : List RunM} (hf : rightM f = true) (hh : rightM h = true) : meetM f h = f.any fun a => h.any fun b => ovD a b:=by
 refine beq_iff' ?_
 have mf:=(right_iff.1 hf).1
 have mh:=(right_iff.1 hh).1
 rw [meetM_iff,clean_of hf,clean_of hh,List.any_eq_true]
 constructor
 ·rintro ⟨k,q1,q2⟩
  obtain ⟨a,ha,a1,a2⟩:=inR_t.1 q1
  obtain ⟨b,hb,b1,b2⟩:=inR_t.1 q2
  have ea : endM a = a.1 + a.2:=rfl
  have eb : endM b = b.1 + b.2:=rfl
  refine ⟨a,ha,List.any_eq_true.2 ⟨b,hb,?_⟩⟩
  unfold ovD
  rw [decide_eq_true (by omega),decide_eq_true (by omega)]
  rfl
 ·rintro ⟨a,ha,q⟩
  obtain ⟨b,hb,q⟩:=List.any_eq_true.1 q
  unfold ovD at q
  rw [Bool.and_eq_true,decide_eq_true_eq,decide_eq_true_eq] at q
  have ea : endM a = a.1 + a.2:=rfl
  have eb : endM b = b.1 + b.2:=rfl
  have m1:=mayM_iff.1 (mf a ha)
  have m2:=mayM_iff.1 (mh b hb)
  rcases Int.le_total a.1 b.1 with e | e
  ·exact ⟨b.1,inR_t.2 ⟨a,ha,by omega,by omega⟩,inR_t.2 ⟨b,hb,by omega,by omega⟩⟩
  ·exact ⟨a.1,inR_t.2 ⟨a,ha,by omega,by omega⟩,inR_t.2 ⟨b,hb,by omega,by omega⟩⟩
section
variable (f h : List RunM) (hf : rightM f = true) (hh : rightM h = true)
include hf hh
theorem l21b (i : Nat) (hi : i < f.length) {Q : AExit → Env → Heap → Prop}
   (hex : ∀ f' K, K.get 0 = some (.box false [encR f, encR h]) → (h.any fun b => ovD f[i] b) = false → f' 1 = .ptr 0 0 0 → f' 3 = int i → Q (.exit 2) (mkE 59 f') (hx K []))
   (hret : ∀ f' K, (h.any fun b => ovD f[i] b) = true → f' 2 = boolA false → Q .ret (mkE 59 f') (hx K [])) :
   ∀ (d j : Nat) (K : Heap) (f' : Nat → AV), j + d = h.length → (h.any fun b => ovD f[i] b) = ((h.drop j).any fun b => ovD f[i] b) → K.get 0 = some (.box false [encR f, encR h]) → f' 1 = .ptr 0 0 0 → f' 3 = int i → f' 4 = int j →
    AW ftG (.loop c21L0) (mkE 59 f') (hx K []) Q := by
  intro d
  have mf := mayM_iff.1 ((right_iff.1 hf).1 _ (List.getElem_mem hi))
  have c0 := fun H => @atR H f i hi
  have c1 := fun H off n => @cR H f i off n hi
  generalize f[i] = a at *
  simp only [runC, int] at c1
  have w2 : IntKind.i64.wrap (a.1 + a.2) = a.1 + a.2 := wrap_i64 (by omega)
  induction d with
  | zero =>
    intro j K f' hd hc h0 e1 e3 e4
    have g : ((j : Int) < h.length) = False := by simp; omega
    have y0 := fun L => get_old h0 L
    rw [AW_loop]
    unfold c21L0
    rw [List.drop_eq_nil_of_le (by omega)] at hc
    simp only [↓vp, vz, Nat.reduceLT, Nat.reduceEqDiff, Nat.reduceLeDiff, Nat.reduceAdd, Nat.reduceSub, Nat.reduceMul, Int.reduceBEq, Int.reduceBNe, Int.reduceLT, Int.reduceLE, Int.reduceEq, reduceIte, reduceCtorEq, da, int, boolA, dr, e1, e3, e4, y0, g]
    refine hex _ K h0 (by rw [hc]; rfl) ?_ ?_ <;> simp only [↓vp, vz, Nat.reduceLT, Nat.reduceEqDiff, Nat.reduceLeDiff, Nat.reduceAdd, Nat.reduceSub, Nat.reduceMul, Int.reduceBEq, Int.reduceBNe, Int.reduceLT, Int.reduceLE, Int.reduceEq, reduceIte, reduceCtorEq, da, int, boolA, e1, e3]
  | succ d ih =>
    intro j K f' hd hc h0 e1 e3 e4
    have g1 : ((j : Int) < h.length) = True := by simp; omega
    have gj : j < h.length := by omega
    have w1 := wrap_succ (show j < 9223372036854775807 by have := right_len hh; omega)
    have y0 := fun L => get_old h0 L
    have d0 := fun H => @atR H h j gj
    have d1 := fun H off n => @cR H h j off n gj
    have mh := mayM_iff.1 ((right_iff.1 hh).1 _ (List.getElem_mem gj))
    rw [List.drop_eq_getElem_cons gj, List.any_cons] at hc
    generalize h[j] = b at *
    simp only [runC, int] at d1
    have w3 : IntKind.i64.wrap (b.1 + b.2) = b.1 + b.2 := wrap_i64 (by omega)
    have nl := Heap.get_lt h0
    rw [AW_loop]
    unfold c21L0
    by_cases q1 : a.1 < b.1 + b.2
    · by_cases q2 : b.1 < a.1 + a.2
      · have hb : ovD a b = true := by unfold ovD; rw [decide_eq_true q1, decide_eq_true q2]; rfl
        rw [hb] at hc
        simp only [↓vp, vz, Nat.reduceLT, Nat.reduceEqDiff, Nat.reduceLeDiff, Nat.reduceAdd, Nat.reduceSub, Nat.reduceMul, Int.reduceBEq, Int.reduceBNe, Int.reduceLT, Int.reduceLE, Int.reduceEq, reduceIte, reduceCtorEq, da, int, boolA, dr, e1, e3, e4, y0, c0, c1, d0, d1, g1, w1, w2, w3, eq_true q1, eq_true q2]
        rw [← hx_nil (hx K _)]
        refine hret _ _ (by rw [hc]; rfl) ?_
        simp only [↓vp, vz, Nat.reduceLT, Nat.reduceEqDiff, Nat.reduceLeDiff, Nat.reduceAdd, Nat.reduceSub, Nat.reduceMul, Int.reduceBEq, Int.reduceBNe, Int.reduceLT, Int.reduceLE, Int.reduceEq, reduceIte, reduceCtorEq, da, int, boolA]
      · have hb : ovD a b = false := by unfold ovD; rw [decide_eq_false q2]; simp
        rw [hb, Bool.false_or] at hc
        simp only [↓vp, vz, Nat.reduceLT, Nat.reduceEqDiff, Nat.reduceLeDiff, Nat.reduceAdd, Nat.reduceSub, Nat.reduceMul, Int.reduceBEq, Int.reduceBNe, Int.reduceLT, Int.reduceLE, Int.reduceEq, reduceIte, reduceCtorEq, da, int, boolA, dr, e1, e3, e4, y0, c0, c1, d0, d1, g1, w1, w2, w3, eq_true q1, eq_false q2]
        rw [← hx_nil (hx K _)]
        refine ih (j + 1) _ _ (by omega) hc (get_old h0 _) ?_ ?_ ?_ <;> simp only [↓vp, vz, Nat.reduceLT, Nat.reduceEqDiff, Nat.reduceLeDiff, Nat.reduceAdd, Nat.reduceSub, Nat.reduceMul, Int.reduceBEq, Int.reduceBNe, Int.reduceLT, Int.reduceLE, Int.reduceEq, reduceIte, reduceCtorEq, da, int, boolA, e1, e3]
    · have hb : ovD a b = false := by unfold ovD; rw [decide_eq_false q1]; simp
      rw [hb, Bool.false_or] at hc
      simp only [↓vp, vz, Nat.reduceLT, Nat.reduceEqDiff, Nat.reduceLeDiff, Nat.reduceAdd, Nat.reduceSub, Nat.reduceMul, Int.reduceBEq, Int.reduceBNe, Int.reduceLT, Int.reduceLE, Int.reduceEq, reduceIte, reduceCtorEq, da, int, boolA, dr, e1, e3, e4, y0, c0, c1, d0, d1, g1, w1, w2, w3, eq_false q1]
      rw [← hx_nil (hx K _)]
      refine ih (j + 1) _ _ (by omega) hc (get_old h0 _) ?_ ?_ ?_ <;> simp only [↓vp, vz, Nat.reduceLT, Nat.reduceEqDiff, Nat.reduceLeDiff, Nat.reduceAdd, Nat.reduceSub, Nat.reduceMul, Int.reduceBEq, Int.reduceBNe, Int.reduceLT, Int.reduceLE, Int.reduceEq, reduceIte, reduceCtorEq, da, int, boolA, e1, e3]
theorem l21 {Q : AExit → Env → Heap → Prop}
   (hex : ∀ f' K, (f.any fun a => h.any fun b => ovD a b) = false → Q (.exit 0) (mkE 59 f') (hx K []))
   (hret : ∀ f' K, (f.any fun a => h.any fun b => ovD a b) = true → f' 2 = boolA false → Q .ret (mkE 59 f') (hx K [])) :
   ∀ (d i : Nat) (K : Heap) (f' : Nat → AV), i + d = f.length → (f.any fun a => h.any fun b => ovD a b) = ((f.drop i).any fun a => h.any fun b => ovD a b) → K.get 0 = some (.box false [encR f, encR h]) → f' 1 = .ptr 0 0 0 → f' 3 = int i →
    AW ftG (.loop c21L2) (mkE 59 f') (hx K []) Q := by
  intro d
  induction d with
  | zero =>
    intro i K f' hd hc h0 e1 e3
    have g : ((i : Int) < f.length) = False := by simp; omega
    have y0 := fun L => get_old h0 L
    rw [AW_loop]
    unfold c21L2
    rw [List.drop_eq_nil_of_le (by omega)] at hc
    simp only [↓vp, vz, Nat.reduceLT, Nat.reduceEqDiff, Nat.reduceLeDiff, Nat.reduceAdd, Nat.reduceSub, Nat.reduceMul, Int.reduceBEq, Int.reduceBNe, Int.reduceLT, Int.reduceLE, Int.reduceEq, reduceIte, reduceCtorEq, da, int, boolA, dr, e1, e3, y0, g]
    exact hex _ K (by rw [hc]; rfl)
  | succ d ih =>
    intro i K f' hd hc h0 e1 e3
    have g1 : ((i : Int) < f.length) = True := by simp; omega
    have gi : i < f.length := by omega
    have w1 := wrap_succ (show i < 9223372036854775807 by have := right_len hf; omega)
    have y0 := fun L => get_old h0 L
    rw [List.drop_eq_getElem_cons gi, List.any_cons] at hc
    rw [AW_loop]
    unfold c21L2
    simp only [↓vp, vz, Nat.reduceLT, Nat.reduceEqDiff, Nat.reduceLeDiff, Nat.reduceAdd, Nat.reduceSub, Nat.reduceMul, Int.reduceBEq, Int.reduceBNe, Int.reduceLT, Int.reduceLE, Int.reduceEq, reduceIte, reduceCtorEq, da, int, boolA, dr, e1, e3, y0, g1]
    refine l21b f h hf hh i gi (fun f2 K2 h2 hb z1 z3 => ?_) (fun f2 K2 hb z2 => ?_) h.length 0 K _ (by simp) rfl h0 ?_ ?_ ?_
    · rw [hb, Bool.false_or] at hc
      unfold c21R1
      simp only [↓vp, vz, Nat.reduceLT, Nat.reduceEqDiff, Nat.reduceLeDiff, Nat.reduceAdd, Nat.reduceSub, Nat.reduceMul, Int.reduceBEq, Int.reduceBNe, Int.reduceLT, Int.reduceLE, Int.reduceEq, reduceIte, reduceCtorEq, da, int, boolA, dr, z1, z3, w1]
      refine ih (i + 1) K2 _ (by omega) hc h2 ?_ ?_ <;> simp only [↓vp, vz, Nat.reduceLT, Nat.reduceEqDiff, Nat.reduceLeDiff, Nat.reduceAdd, Nat.reduceSub, Nat.reduceMul, Int.reduceBEq, Int.reduceBNe, Int.reduceLT, Int.reduceLE, Int.reduceEq, reduceIte, reduceCtorEq, da, int, boolA, z1]
    · simp only [↓vp, vz, Nat.reduceLT, Nat.reduceEqDiff, Nat.reduceLeDiff, Nat.reduceAdd, Nat.reduceSub, Nat.reduceMul, Int.reduceBEq, Int.reduceBNe, Int.reduceLT, Int.reduceLE, Int.reduceEq, reduceIte, reduceCtorEq, da, int, boolA, dr]
      exact hret _ _ (by rw [hc, hb]; rfl) z2
    · simp only [↓vp, vz, Nat.reduceLT, Nat.reduceEqDiff, Nat.reduceLeDiff, Nat.reduceAdd, Nat.reduceSub, Nat.reduceMul, Int.reduceBEq, Int.reduceBNe, Int.reduceLT, Int.reduceLE, Int.reduceEq, reduceIte, reduceCtorEq, da, int, boolA, e1]
    · simp only [↓vp, vz, Nat.reduceLT, Nat.reduceEqDiff, Nat.reduceLeDiff, Nat.reduceAdd, Nat.reduceSub, Nat.reduceMul, Int.reduceBEq, Int.reduceBNe, Int.reduceLT, Int.reduceLE, Int.reduceEq, reduceIte, reduceCtorEq, da, int, boolA, e3]
    · simp only [↓vp, vz, Nat.reduceLT, Nat.reduceEqDiff, Nat.reduceLeDiff, Nat.reduceAdd, Nat.reduceSub, Nat.reduceMul, Int.reduceBEq, Int.reduceBNe, Int.reduceLT, Int.reduceLE, Int.reduceEq, reduceIte, reduceCtorEq, da, int, boolA]
      try rfl
end
theorem s21 (f h : List RunM) (hf : f.length ≤ 2000000) (hh : h.length ≤ 2000000) (H : Heap) : callL ftG (.fn (.func 21) [] []) [.agg [encR f,encR h]] H = some (boolA (rightS f h),H):=by
 refine call_p (as':=[.agg [encR f,encR h]]) rfl rfl (by simp) ?_
 unfold c21 r21
 have k1:=fun K L Q => @KW_of ftG _ _ _ Q _ _ (s52 f hf (hx K L))
 have k2:=fun K L Q => @KW_of ftG _ _ _ Q _ _ (s52 h hh (hx K L))
 cases e1 : mayS f with
 | false =>
  have e : rightS f h = false:=by unfold rightS; rw [e1]; rfl
  rw [e1] at k1
  simp only [boolA] at k1
  rw [e]
  simp only [↓vp,vz,Nat.reduceLT,Nat.reduceEqDiff,Nat.reduceLeDiff,Nat.reduceAdd,Nat.reduceSub,Nat.reduceMul,Int.reduceBEq,Int.reduceBNe,Int.reduceLT,Int.reduceLE,Int.reduceEq,reduceIte,reduceCtorEq,da,int,boolA,rt,dr,k1]
 | true =>
  cases e2 : mayS h with
  | false =>
   have e : rightS f h = false:=by unfold rightS; rw [e2]; simp
   rw [e1] at k1
   rw [e2] at k2
   simp only [boolA] at k1 k2
   rw [e]
   simp only [↓vp,vz,Nat.reduceLT,Nat.reduceEqDiff,Nat.reduceLeDiff,Nat.reduceAdd,Nat.reduceSub,Nat.reduceMul,Int.reduceBEq,Int.reduceBNe,Int.reduceLT,Int.reduceLE,Int.reduceEq,reduceIte,reduceCtorEq,da,int,boolA,rt,dr,k1,k2]
  | true =>
   have rf:=(mayS_t e1).1
   have rh:=(mayS_t e2).1
   have e : rightS f h = !(f.any fun a => h.any fun b => ovD a b):=by unfold rightS; rw [e1,e2,meet_ov rf rh]; rfl
   rw [e1] at k1
   rw [e2] at k2
   simp only [boolA] at k1 k2
   simp only [↓vp,vz,Nat.reduceLT,Nat.reduceEqDiff,Nat.reduceLeDiff,Nat.reduceAdd,Nat.reduceSub,Nat.reduceMul,Int.reduceBEq,Int.reduceBNe,Int.reduceLT,Int.reduceLE,Int.reduceEq,reduceIte,reduceCtorEq,da,int,boolA,dr,k1,k2]
   rw [← hx_nil (hx Heap.empty _)]
   refine l21 f h rf rh (fun f' K hm => ?_) (fun f' K hm z2 => ?_) f.length 0 _ _ (by simp) rfl rfl ?_ ?_
   ·unfold c21R3
    rw [e,hm]
    simp only [↓vp,vz,Nat.reduceLT,Nat.reduceEqDiff,Nat.reduceLeDiff,Nat.reduceAdd,Nat.reduceSub,Nat.reduceMul,Int.reduceBEq,Int.reduceBNe,Int.reduceLT,Int.reduceLE,Int.reduceEq,reduceIte,reduceCtorEq,da,int,boolA,rt]
    try rfl
   ·rw [e,hm]
    simp only [↓vp,vz,Nat.reduceLT,Nat.reduceEqDiff,Nat.reduceLeDiff,Nat.reduceAdd,Nat.reduceSub,Nat.reduceMul,Int.reduceBEq,Int.reduceBNe,Int.reduceLT,Int.reduceLE,Int.reduceEq,reduceIte,reduceCtorEq,da,int,boolA,rt,z2]
    try rfl
   ·simp only [↓vp,vz,Nat.reduceLT,Nat.reduceEqDiff,Nat.reduceLeDiff,Nat.reduceAdd,Nat.reduceSub,Nat.reduceMul,Int.reduceBEq,Int.reduceBNe,Int.reduceLT,Int.reduceLE,Int.reduceEq,reduceIte,reduceCtorEq,da,int,boolA]
   ·simp only [↓vp,vz,Nat.reduceLT,Nat.reduceEqDiff,Nat.reduceLeDiff,Nat.reduceAdd,Nat.reduceSub,Nat.reduceMul,Int.reduceBEq,Int.reduceBNe,Int.reduceLT,Int.reduceLE,Int.reduceEq,reduceIte,reduceCtorEq,da,int,boolA]
    try rfl
end Go.VI
namespace Go.VI
attribute [local congr] AW_congr OW_congr DW_congr NW_congr VW_congr GW_congr PW_congr KW_congr ite_congr' GV_congr CV_congr KF_congr
section
variable {f h : List RunM} {p : Int}
theorem one_may (h2 : 2 ≤ p) (h3 : p < 16384) : mayM (p,1) = true:=mayM_iff.2 ⟨by simp; omega,by simp,by simp; omega,by simp; omega⟩
theorem pin_one {q : Int} : pinR (p,1) q = decide (q = p):=by
 refine beq_iff' ?_
 rw [pinR_t,decide_eq_true_eq]
 have e : endM (p,1) = p + 1:=rfl
 rw [e]
 simp only
 omega
theorem add_one (h2 : 2 ≤ p) (h3 : p < 16384) (hr : rightM f = true) (hn : hasM f p = false) : addB f (p,1) = true ∧ rightM (addM f (p,1)) = true ∧ (∀ q,inR (addM f (p,1)) q = (inR f q || decide (q = p))) ∧ countM (addM f (p,1)) = countM f + 1:=by
 have hc:=clean_of hr
 rw [hasM_eq,hc] at hn
 have hb : addB f (p,1) = true:=addB_iff.2 ⟨one_may h2 h3,fun q hq => by
  rw [pin_one,decide_eq_true_eq] at hq
  rw [hc,hq]
  exact hn⟩
 have ha:=addM_ok f (p,1)
 rw [hc,hb] at ha
 have hq : ∀ q,inR (addM f (p,1)) q = (inR f q || decide (q = p)):=fun q => by rw [ha.2,Bool.true_and,pin_one]
 refine ⟨hb,ha.1,hq,?_⟩
 rw [countM_eq,countM_eq,pages_upto (clean_lt _),pages_upto (clean_lt _),hc,clean_of ha.1]
 have u:=upto_count (fun k => inR f (k : Int)) (fun k => decide ((k : Int) = p)) 32768
 have u1 : upto (fun k => decide ((k : Int) = p)) 32768 = [p]:=rise_ext (upto_rise _ _) (by simp) fun q => by
  rw [upto_mem,decide_eq_true_eq,List.mem_singleton]
  omega
 have u2 : upto (fun k => inR f (k : Int) && decide ((k : Int) = p)) 32768 = []:=rise_ext (upto_rise _ _) (by simp) fun q => by
  rw [upto_mem,Bool.and_eq_true,decide_eq_true_eq]
  refine ⟨fun ⟨q1,q2,q3,q4⟩ => ?_,fun q => by cases q⟩
  rw [q4,hn] at q3
  cases q3
 rw [u1,u2] at u
 simp only [hq]
 simp only [List.length_cons,List.length_nil] at u
 omega
theorem may_one (h2 : 2 ≤ p) (h3 : p < 16384) (hm : mayS f = true) (hn : hasM f p = false) : mayS (addM f (p,1)) = true:=by
 obtain ⟨m1,m2⟩:=mayS_t hm
 obtain ⟨a1,a2,a3,a4⟩:=add_one h2 h3 m1 hn
 refine (mayS_of (n:=16384) a2 (fun k hk => ?_) (by omega) (by omega)).1
 rw [a3,Bool.or_eq_true,decide_eq_true_eq] at hk
 have he : endsM f ≤ 16384:=by
  unfold mayS at hm
  rw [Bool.and_eq_true,Bool.and_eq_true,decide_eq_true_eq] at hm
  exact hm.1.2
 rcases hk with hk | hk
 ·have:=m2 k hk
  omega
 ·omega
theorem rightS_t (e : rightS f h = true) : mayS f = true ∧ mayS h = true ∧ meetM f h = false:=by
 unfold rightS at e
 rw [Bool.and_eq_true,Bool.and_eq_true,Bool.not_eq_true'] at e
 exact ⟨e.1.1,e.1.2,e.2⟩
theorem right_one (h2 : 2 ≤ p) (h3 : p < 16384) (e : rightS f h = true) (n1 : hasM f p = false) (n2 : hasM h p = false) : rightS (addM f (p,1)) h = true ∧ rightS f (addM h (p,1)) = true:=by
 obtain ⟨e1,e2,e3⟩:=rightS_t e
 have m1:=may_one h2 h3 e1 n1
 have m2:=may_one h2 h3 e2 n2
 obtain ⟨a1,a2,a3,-⟩:=add_one h2 h3 (mayS_t e1).1 n1
 obtain ⟨b1,b2,b3,-⟩:=add_one h2 h3 (mayS_t e2).1 n2
 have cf:=clean_of (mayS_t e1).1
 have ch:=clean_of (mayS_t e2).1
 rw [hasM_eq,cf] at n1
 rw [hasM_eq,ch] at n2
 have nm : ∀ q,inR f q = true → inR h q = true → False:=fun q q1 q2 => by
  have : meetM f h = true:=meetM_iff.2 ⟨q,by rw [cf]; exact q1,by rw [ch]; exact q2⟩
  rw [e3] at this
  cases this
 have x1 : meetM (addM f (p,1)) h = false:=by
  rw [Bool.eq_false_iff]
  intro q
  obtain ⟨k,k1,k2⟩:=meetM_iff.1 q
  rw [clean_of a2,a3,Bool.or_eq_true,decide_eq_true_eq] at k1
  rw [ch] at k2
  rcases k1 with k1 | k1
  ·exact nm k k1 k2
  ·rw [k1,n2] at k2; cases k2
 have x2 : meetM f (addM h (p,1)) = false:=by
  rw [Bool.eq_false_iff]
  intro q
  obtain ⟨k,k1,k2⟩:=meetM_iff.1 q
  rw [clean_of b2,b3,Bool.or_eq_true,decide_eq_true_eq] at k2
  rw [cf] at k1
  rcases k2 with k2 | k2
  ·exact nm k k1 k2
  ·rw [k2,n1] at k1; cases k1
 unfold rightS
 rw [m1,m2,e1,e2,x1,x2]
 exact ⟨rfl,rfl⟩
theorem upM_succ {n g : Int} (hn : 0 ≤ n) (hg : g = 1 ∨ g = 2) : 1 ≤ upM (n + 1) (roomM g) ∧ upM (n + 1) (roomM g) ≤ upM n (roomM g) + 1 ∧ upM n (roomM g) ≤ upM (n + 1) (roomM g) ∧ upM 0 (roomM g) = 0 ∧ upM (n + 1) (roomM g) ≤ n + 1:=by
 rcases hg with rfl | rfl
 ·rw [show roomM 1 = 61 from rfl]
  unfold upM
  rw [Int.tdiv_eq_ediv_of_nonneg (by omega),Int.tdiv_eq_ediv_of_nonneg (by omega),Int.tdiv_eq_ediv_of_nonneg (by omega)]
  omega
 ·rw [show roomM 2 = 29 from rfl]
  unfold upM
  rw [Int.tdiv_eq_ediv_of_nonneg (by omega),Int.tdiv_eq_ediv_of_nonneg (by omega),Int.tdiv_eq_ediv_of_nonneg (by omega)]
  omega
theorem needG {g : Int} (hg : g = 1 ∨ g = 2) (h2 : 2 ≤ p) (h3 : p < 16384) (e : rightS f h = true) (n1 : hasM f p = false) (n2 : hasM h p = false) :
  addB f (p,1) = true ∧ addB h (p,1) = true ∧ needM g (addM f (p,1)) h = needM g f (addM h (p,1)) ∧ needM g f h ≤ needM g (addM f (p,1)) h ∧ needM g (addM f (p,1)) h ≤ needM g f h + 1 ∧ 1 ≤ needM g (addM f (p,1)) h ∧ 0 ≤ needM g f h ∧ needM g f h ≤ 70000:=by
 obtain ⟨e1,e2,e3⟩:=rightS_t e
 obtain ⟨r1,r2⟩:=right_one h2 h3 e n1 n2
 obtain ⟨a1,a2,-,a4⟩:=add_one h2 h3 (mayS_t e1).1 n1
 obtain ⟨b1,b2,-,b4⟩:=add_one h2 h3 (mayS_t e2).1 n2
 have cf:=@countM_16 f
 have ch:=@countM_16 h
 have gg : genB g = true:=by rcases hg with rfl | rfl <;> decide
 have gc : chainB g = true:=by rcases hg with rfl | rfl <;> decide
 obtain ⟨u1,u2,u3,u4,u5⟩:=upM_succ (n:=countM f + countM h) (by omega) hg
 have z1 : (countM f + 1 + countM h == 0) = false:=beq_eq_false_iff_ne.2 (by omega)
 have z2 : (countM f + (countM h + 1) == 0) = false:=beq_eq_false_iff_ne.2 (by omega)
 have N1 : needM g (addM f (p,1)) h = upM (countM f + countM h + 1) (roomM g):=by
  unfold needM
  rw [gg,r1,a4,z1,gc,show countM f + 1 + countM h = countM f + countM h + 1 by omega]
  rfl
 have N2 : needM g f (addM h (p,1)) = upM (countM f + countM h + 1) (roomM g):=by
  unfold needM
  rw [gg,r2,b4,z2,gc,show countM f + (countM h + 1) = countM f + countM h + 1 by omega]
  rfl
 have N0 : needM g f h = upM (countM f + countM h) (roomM g):=by
  unfold needM
  rw [gg,e,gc]
  cases z : (countM f + countM h == 0) with
  | false => rfl
  | true =>
   rw [beq_iff_eq.1 z,u4]
   rfl
 have nn : 0 ≤ upM (countM f + countM h) (roomM g):=by
  unfold upM
  exact Int.tdiv_nonneg (by unfold roomM; split <;> omega) (by unfold roomM; split <;> omega)
 refine ⟨a1,b1,by rw [N1,N2],by rw [N0,N1]; exact u3,by rw [N0,N1]; exact u2,by rw [N1]; exact u1,by rw [N0]; exact nn,by rw [N0]; omega⟩
end
end Go.VI
namespace Go.VI
attribute [local congr] AW_congr OW_congr DW_congr NW_congr VW_congr GW_congr PW_congr KW_congr ite_congr' GV_congr CV_congr KF_congr
noncomputable def ftG7 : FT
 | 7 => some (.go true 111 r7 c7)
 | k => ftG8 k
theorem ftG7_sub : Sub ftG8 ftG7:=by
 intro k d h
 unfold ftG7
 split
 ·exact absurd h (by unfold ftG8 ftG ft; simp)
 ·exact h
section
variable {k : Nat} {args as' : List AV} {v : AV} {H H1 H2 : Heap} {Q : AV → Heap → Prop}
theorem k8_of (hk : ftG8 k = some (.pprim (goP ftM k))) (hz : frzCells H args = some (as',H1)) (hc : closedL as' = true) (h : callL ftM (.fn (.func k) [] []) as' Heap.empty = some (v,H2)) : KW ftG8 (.fn (.func k) [] []) args H Q ↔ Q v H1:=by
 refine KW_of (call_pprim (as':=as') (p:=goP ftM k) hk (by simpa using hz) ?_)
 unfold goP
 rw [if_pos hc,h]
 rfl
end
theorem c7_body (g p : Int) (f h : List RunM) (l1 : f.length ≤ 100000000000000) (l2 : h.length ≤ 100000000000000) :
  AW ftG8 c7 (mkE 111 (ofL [int g,.agg [encR f,encR h],int p])) (hx Heap.empty []) (RetP r7 (boolA true)):=by
 unfold c7 r7
 have k8:=fun K L Q => @KW_of ftG8 _ _ _ Q _ _ (s8 (hx K L))
 have k15:=fun K L Q => @KW_of ftG8 _ _ _ Q _ _ (callL_sub ftG8_sub (s15 f h l1 l2 (hx K L)))
 simp only [boolA] at k8
 cases e1 : fewS f h with
 | false =>
  rw [e1] at k15
  simp only [boolA] at k15
  simp only [↓vp,vz,Nat.reduceLT,Nat.reduceEqDiff,Nat.reduceLeDiff,Nat.reduceAdd,Nat.reduceSub,Nat.reduceMul,Int.reduceBEq,Int.reduceBNe,Int.reduceLT,Int.reduceLE,Int.reduceEq,reduceIte,reduceCtorEq,da,int,boolA,rt,dr,k15,k8]
 | true =>
 rw [e1] at k15
 obtain ⟨a1,a2,-,-⟩:=fewS_le e1
 have k21:=fun K L Q => @KW_of ftG8 _ _ _ Q _ _ (callL_sub ftG8_sub (s21 f h (by omega) (by omega) (hx K L)))
 cases e2 : rightS f h with
 | false =>
  rw [e2] at k21
  simp only [boolA] at k15 k21
  simp only [↓vp,vz,Nat.reduceLT,Nat.reduceEqDiff,Nat.reduceLeDiff,Nat.reduceAdd,Nat.reduceSub,Nat.reduceMul,Int.reduceBEq,Int.reduceBNe,Int.reduceLT,Int.reduceLE,Int.reduceEq,reduceIte,reduceCtorEq,da,int,boolA,rt,dr,k15,k21,k8]
 | true =>
 rw [e2] at k21
 simp only [boolA] at k15 k21
 by_cases g1 : g < 1
 ·simp only [↓vp,vz,Nat.reduceLT,Nat.reduceEqDiff,Nat.reduceLeDiff,Nat.reduceAdd,Nat.reduceSub,Nat.reduceMul,Int.reduceBEq,Int.reduceBNe,Int.reduceLT,Int.reduceLE,Int.reduceEq,reduceIte,reduceCtorEq,da,int,boolA,rt,dr,k15,k21,k8,eq_true g1]
 by_cases g2 : g > 2
 ·simp only [↓vp,vz,Nat.reduceLT,Nat.reduceEqDiff,Nat.reduceLeDiff,Nat.reduceAdd,Nat.reduceSub,Nat.reduceMul,Int.reduceBEq,Int.reduceBNe,Int.reduceLT,Int.reduceLE,Int.reduceEq,reduceIte,reduceCtorEq,da,int,boolA,rt,dr,k15,k21,k8,eq_false g1,eq_true g2]
 by_cases g3 : p < 2
 ·simp only [↓vp,vz,Nat.reduceLT,Nat.reduceEqDiff,Nat.reduceLeDiff,Nat.reduceAdd,Nat.reduceSub,Nat.reduceMul,Int.reduceBEq,Int.reduceBNe,Int.reduceLT,Int.reduceLE,Int.reduceEq,reduceIte,reduceCtorEq,da,int,boolA,rt,dr,k15,k21,k8,eq_false g1,eq_false g2,eq_true g3]
 by_cases g4 : p ≥ 16384
 ·simp only [↓vp,vz,Nat.reduceLT,Nat.reduceEqDiff,Nat.reduceLeDiff,Nat.reduceAdd,Nat.reduceSub,Nat.reduceMul,Int.reduceBEq,Int.reduceBNe,Int.reduceLT,Int.reduceLE,Int.reduceEq,reduceIte,reduceCtorEq,da,int,boolA,rt,dr,k15,k21,k8,eq_false g1,eq_false g2,eq_false g3,eq_true g4]
 have kt:=fun K L Q => @KW_of ftG8 _ _ _ Q _ _ (callL_sub ftG8_sub (s17 f h (by omega) (by omega) (hx K L)))
 have kf : ∀ H Q,KW ftG8 (.fn (.func 23) [] []) [encR f,int p] H Q ↔ Q (boolA (hasM f p)) H:=fun H Q => k8_of rfl rfl rfl (s23 f (by omega) p Heap.empty)
 have kh : ∀ H Q,KW ftG8 (.fn (.func 23) [] []) [encR h,int p] H Q ↔ Q (boolA (hasM h p)) H:=fun H Q => k8_of rfl rfl rfl (s23 h (by omega) p Heap.empty)
 simp only [int,boolA] at kf kh
 cases e3 : hasM f p with
 | true =>
  rw [e3] at kf
  simp only [↓vp,vz,Nat.reduceLT,Nat.reduceEqDiff,Nat.reduceLeDiff,Nat.reduceAdd,Nat.reduceSub,Nat.reduceMul,Int.reduceBEq,Int.reduceBNe,Int.reduceLT,Int.reduceLE,Int.reduceEq,reduceIte,reduceCtorEq,da,int,boolA,rt,dr,k15,k21,k8,eq_false g1,eq_false g2,eq_false g3,eq_false g4,kt,kf,kh]
 | false =>
 rw [e3] at kf
 cases e4 : hasM h p with
 | true =>
  rw [e4] at kh
  simp only [↓vp,vz,Nat.reduceLT,Nat.reduceEqDiff,Nat.reduceLeDiff,Nat.reduceAdd,Nat.reduceSub,Nat.reduceMul,Int.reduceBEq,Int.reduceBNe,Int.reduceLT,Int.reduceLE,Int.reduceEq,reduceIte,reduceCtorEq,da,int,boolA,rt,dr,k15,k21,k8,eq_false g1,eq_false g2,eq_false g3,eq_false g4,kt,kf,kh]
 | false =>
 rw [e4] at kh
 have hg : g = 1 ∨ g = 2:=by omega
 obtain ⟨q1,q2,q3,q4,q5,q6,q7,q8⟩:=needG hg (by omega) (by omega) e2 e3 e4
 obtain ⟨r1,r2,-⟩:=rightS_t e2
 have b1 : (addM f (p,1)).length ≤ 1000:=by have:=addM_len f (p,1); omega
 have b2 : (addM h (p,1)).length ≤ 1000:=by have:=addM_len h (p,1); omega
 have ka : ∀ H Q,KW ftG8 (.fn (.func 24) [] []) [encR f,.agg (runC (p,1))] H Q ↔ Q (.tup [encR (addM f (p,1)),boolA (addB f (p,1))]) H:=fun H Q => k8_of rfl rfl rfl (s24 f (by omega) (p,1) Heap.empty)
 have kb : ∀ H Q,KW ftG8 (.fn (.func 24) [] []) [encR h,.agg (runC (p,1))] H Q ↔ Q (.tup [encR (addM h (p,1)),boolA (addB h (p,1))]) H:=fun H Q => k8_of rfl rfl rfl (s24 h (by omega) (p,1) Heap.empty)
 have kn:=fun K L Q => @KW_of ftG8 _ _ _ Q _ _ (callL_sub ftG8_sub (s16 g f h (by omega) (by omega) (fun e => by omega) (hx K L)))
 have kn1:=fun K L Q => @KW_of ftG8 _ _ _ Q _ _ (callL_sub ftG8_sub (s16 g (addM f (p,1)) h (by omega) (by omega) (fun e => by omega) (hx K L)))
 have kn2:=fun K L Q => @KW_of ftG8 _ _ _ Q _ _ (callL_sub ftG8_sub (s16 g f (addM h (p,1)) (by omega) (by omega) (fun e => by omega) (hx K L)))
 rw [q1] at ka
 rw [q2] at kb
 rw [← q3] at kn2
 generalize needM g (addM f (p,1)) h = N1 at *
 generalize needM g f h = N0 at *
 generalize addM f (p,1) = F1 at *
 generalize addM h (p,1) = H1 at *
 have w1 : IntKind.i64.wrap (N0 + 1) = N0 + 1:=wrap_i64 (by omega)
 have v16 : ∀ a b,pureV ftG8 (.fn (.func 16) [] []) [.sc (.int .i64 g),.agg [encR a,encR b]] = some (false,[]):=fun _ _ => rfl
 simp only [runC,int,boolA] at ka kb kn kn1 kn2
 simp only [↓vp,vz,Nat.reduceLT,Nat.reduceEqDiff,Nat.reduceLeDiff,Nat.reduceAdd,Nat.reduceSub,Nat.reduceMul,Int.reduceBEq,Int.reduceBNe,Int.reduceLT,Int.reduceLE,Int.reduceEq,reduceIte,reduceCtorEq,da,int,boolA,rt,dr,k15,k21,k8,eq_false g1,eq_false g2,eq_false g3,eq_false g4,kt,kf,kh,ka,kb,kn,kn1,kn2,w1,v16,eq_true q4,eq_true (show N1 ≥ N0 from q4),eq_true q5,eq_true q6,eq_true (show N1 ≥ 1 from q6)]
theorem s7 (g p : Int) (f h : List RunM) (l1 : f.length ≤ 100000000000000) (l2 : h.length ≤ 100000000000000) (H : Heap) :
  callL ftG7 (.fn (.func 7) [] []) [int g,.agg [encR f,encR h],int p] H = some (boolA true,H):=call_p (as':=[int g,.agg [encR f,encR h],int p]) rfl rfl (by simp) (AW_sub ftG7_sub (c7_body g p f h l1 l2))
end Go.VI
namespace Go.VI
theorem fc7 : compF Go.Proofs.Tryz.prog 7 = some (111,r7,c7):=by kernel_rfl
theorem fn7 : (Go.Proofs.Tryz.prog.funcs[7]?).all (fun fn => !(fn.name == "runtime.NumGoroutine")) = true:=by kernel_rfl
theorem ftG7_ok : FTOk Go.Proofs.Tryz.prog ftG7:=by
 intro k d h
 unfold ftG7 at h
 split at h
 ·cases h; exact go_ok fc7 fn7
 ·exact ftG8_ok _ _ h
end Go.VI
