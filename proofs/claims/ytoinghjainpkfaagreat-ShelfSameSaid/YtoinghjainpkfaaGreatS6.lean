import Derived.Test.YtoinghjainpkfaaGreatS5
import Derived.Shelf.SlSortCmp.WholeK
import Derived.Ground.SlsfProg
import Derived.Test.YtoinghjainpkfaaGreatChecked
import Derived.ChangeArms
import Derived.ChangeReads
import GoSem.ClaimJoined
import Derived.Below
import Derived.KernelRfl
import Derived.OpenShut
/- What the claim hangs on, part 6: WO WP WQ RSL VXQ RA RB RSM RFZ RGA RGZ WR RFZ5. -/
set_option linter.unusedVariables false
set_option linter.unusedSectionVars false
set_option linter.unusedSimpArgs false
set_option maxRecDepth 100000
namespace Go.VI
attribute [local congr] AW_congr OW_congr DW_congr NW_congr VW_congr GW_congr PW_congr KW_congr ite_congr' GV_congr CV_congr KF_congr
theorem heapSetSame {H : Heap} {id : Nat} {b : Blk} (h : H.get id = some b) : H.set id b = H:=by
 obtain ⟨bs⟩:=H
 show (⟨bs.set id b⟩ : Heap) = ⟨bs⟩
 congr 1
 obtain ⟨hlt,he⟩:=List.getElem?_eq_some_iff.1 h
 rw [← he]
 exact List.set_getElem_self hlt
def Sep (S T : AV) : Prop:=∀ i a b j c d,S = .sl i a b → T = .sl j c d → i ≠ j
structure ChS (K : Heap) (rid hid cid : Nat) (fn mp I : AV) (bb : List Int) (cnt : Int) (F H : AV) (fs hs is : List Int) (a : Nat) : Prop where
 rd : K.get rid = some (.box false [fn,int 1,F,H,I,mp,boolA false])
 hd : K.get hid = some (.box false [int 70,int 1,int cnt,int 0])
 cu : K.get cid = some (curB (encB bb) a false)
 f : Rep K 1 F (fs.map numC)
 h : Rep K 1 H (hs.map numC)
 i : Rep K 1 I (is.map numC)
 fh : Sep F H
 fi : Sep F I
 hi : Sep H I
theorem rep_old {K K' : Heap} {cid : Nat} {S : AV} {rows : List (List AV)} (h : Rep K 1 S rows) {cs' : List AV} (hc : K.get cid = some (.box false cs')) (hq : ∀ j,j < K.next → j ≠ cid → K'.get j = K.get j) : Rep K' 1 S rows:=by
 refine h.mono fun id hid => ?_
 rw [hq id (Heap.get_lt hid) (fun e => by rw [e,hc] at hid; cases hid)]
 exact hid
theorem rep_kill {K : Heap} {S T : AV} {rows : List (List AV)} (h : Rep K 1 S rows) (hs : Sep S T) (rid : Nat) (b : Blk) (hr : ∀ r,K.get rid ≠ some (.row false 1 r)) (L : List Blk) : Rep (hx ((kill K T).set rid b) L) 1 S rows:=by
 rcases h with h | ⟨id,rfl,h⟩
 ·exact .inl h
 ·refine .inr ⟨id,rfl,get_old ?_ L⟩
  rw [Heap.get_set_ne _ (fun e => hr _ (e ▸ h))]
  cases T with
  | sl i a b => exact (Heap.get_set_ne _ (hs _ _ _ _ _ _ rfl rfl)).trans h
  | _ => exact h
theorem kill_same {K : Heap} {S : AV} {j : Nat} (h : ∀ i a b,S = .sl i a b → j ≠ i) : (kill K S).get j = K.get j:=by
 cases S with
 | sl i a b => exact Heap.get_set_ne _ (h i a b rfl)
 | _ => rfl
section
variable {bb vals : List Int} {m held : Nat} (hbb : 4 + 4 * vals.length ≤ bb.length) (hsm : bb.length ≤ 1000000) (hv : ∀ k (hk : k < vals.length), valM (partB bb (4 + 4 * k) 4) = vals[k] ∧ 0 ≤ vals[k] ∧ vals[k] ≤ 4294967295) (hm : m + held = vals.length)
   {rid hid cid : Nat} {fn mp I : AV} {is : List Int} (B : Nat) (hI : ∀ i a b, I = .sl i a b → B ≤ i) (hB : rid < B ∧ hid < B ∧ cid < B) (d1 : rid ≠ cid) (d2 : hid ≠ cid) (d3 : rid ≠ hid)
include hbb hsm hv hm hI hB d1 d2 d3
theorem l30 {Q : AExit → Env → Heap → Prop} (K0 : Heap) (x4 x5 : AV)
   (hex : ∀ f' K F H, ChS K rid hid cid fn mp I bb vals.length F H (vals.take m) (vals.drop m) is (4 + 4 * vals.length) → K0.next ≤ K.next → (∀ j, j < B → j ≠ rid → j ≠ cid → K.get j = K0.get j) → f' 0 = .ptr rid 0 0 → f' 4 = .ptr hid 0 0 → f' 5 = .ptr cid 0 0 → Q (.exit 2) (mkE 94 f') (hx K [])) :
   ∀ (d i : Nat) (K : Heap) (f : Nat → AV) (F H : AV), i + d = vals.length → ChS K rid hid cid fn mp I bb vals.length F H (vals.take (min i m)) ((vals.take i).drop m) is (4 + 4 * i) → B ≤ K.next → K0.next ≤ K.next → (∀ j, j < B → j ≠ rid → j ≠ cid → K.get j = K0.get j) →
     (∀ i a b, F = .sl i a b → B ≤ i) → (∀ i a b, H = .sl i a b → B ≤ i) → f 0 = .ptr rid 0 0 → f 4 = .ptr hid 0 0 → f 5 = .ptr cid 0 0 → f 6 = int held → f 7 = int i →
    AW ftG (.loop c30L0) (mkE 94 f) (hx K []) Q := by
  intro d
  induction d with
  | zero =>
    intro i K f F H hd hc hBK hn hk hF hH f0 f4 f5 f6 f7
    have g : ((i : Int) < vals.length) = False := by simp; omega
    have yh := fun L => get_old hc.hd L
    simp only [int] at yh
    have e1 : vals.take (min i m) = vals.take m := by rw [Nat.min_eq_right (by omega)]
    have e2 : (vals.take i).drop m = vals.drop m := by rw [List.take_of_length_le (by omega)]
    rw [e1, e2, show i = vals.length by omega] at hc
    rw [AW_loop]
    unfold c30L0
    simp only [↓vp, vz, Nat.reduceLT, Nat.reduceEqDiff, Nat.reduceLeDiff, Nat.reduceAdd, Nat.reduceSub, Nat.reduceMul, Int.reduceBEq, Int.reduceBNe, Int.reduceLT, Int.reduceLE, Int.reduceEq, reduceIte, reduceCtorEq, da, int, boolA, dr, f0, f4, f5, f7, yh, g]
    refine hex _ K F H hc hn hk ?_ ?_ ?_ <;> simp only [↓vp, vz, Nat.reduceLT, Nat.reduceEqDiff, Nat.reduceLeDiff, Nat.reduceAdd, Nat.reduceSub, Nat.reduceMul, Int.reduceBEq, Int.reduceBNe, Int.reduceLT, Int.reduceLE, Int.reduceEq, reduceIte, reduceCtorEq, da, int, boolA, f0, f4, f5]
  | succ d ih =>
    intro i K f F H hd hc hBK hn hk hF hH f0 f4 f5 f6 f7
    have g : ((i : Int) < vals.length) = True := by simp; omega
    have gi : i < vals.length := by omega
    obtain ⟨v1, v2, v3⟩ := hv i gi
    have yh := fun L => get_old hc.hd L
    have yr := fun L => get_old hc.rd L
    have k62 : ∀ L Q, KW ftG (.fn (.func 62) [] []) [.ptr cid 0 0] (hx K L) Q ↔ Q (int 0) (hx K L) := fun L Q => o62 (cid := cid) (get_old hc.cu L)
    have k66' := fun K L Q => @k66 1 K L Q
    rw [show (traitM 1).2.2.1 = 4 from rfl] at k66'
    have w1 := wrap_succ (show i < 9223372036854775807 by omega)
    have w2 : IntKind.i64.wrap ((vals.length : Int) - held) = (m : Int) := by rw [wrap_i64 (by omega)]; omega
    simp only [int, boolA] at yh yr k62 k66'
    rw [AW_loop]
    unfold c30L0
    simp only [↓vp, vz, Nat.reduceLT, Nat.reduceEqDiff, Nat.reduceLeDiff, Nat.reduceAdd, Nat.reduceSub, Nat.reduceMul, Int.reduceBEq, Int.reduceBNe, Int.reduceLT, Int.reduceLE, Int.reduceEq, reduceIte, reduceCtorEq, da, int, boolA, dr, f0, f4, f5, f6, f7, yh, yr, g, k62, k66']
    rw [hx_nil]
    have hw4 : ((4 : Nat) : Int) = 4 := rfl
    refine o61 (a := 4 + 4 * i) (w := 4) hc.cu (by decide) (by decide) (by omega) hsm (by rw [v1]; omega) (by rw [v1]; exact v2) fun K2 q1 q2 q3 => ?_
    rw [v1]
    have lr := Heap.get_lt hc.rd
    have lh := Heap.get_lt hc.hd
    have r2 : K2.get rid = _ := (q3 rid lr d1).trans hc.rd
    have h2 : K2.get hid = _ := (q3 hid lh d2).trans hc.hd
    have rF : Rep K2 1 F _ := rep_old hc.f hc.cu q3
    have rH : Rep K2 1 H _ := rep_old hc.h hc.cu q3
    have rI : Rep K2 1 I _ := rep_old hc.i hc.cu q3
    have zr := fun L => get_old r2 L
    have zh := fun L => get_old h2 L
    have fl : (vals.take (min i m)).length = min i m := by rw [List.length_take]; omega
    have hl : ((vals.take i).drop m).length = i - m := by rw [List.length_drop, List.length_take]; omega
    have new : ∀ (S' : AV) n, S' = .sl (K2.next + 1) 0 n → ∀ i a b, S' = .sl i a b → B ≤ i := fun S' n e i' a b e' => by rw [e] at e'; injection e' with e1; omega
    have frame : ∀ (S : AV) (b x y : Blk), (∀ i a b, S = .sl i a b → B ≤ i) → ∀ j, j < B → j ≠ rid → (hx ((kill K2 S).set rid b) [x, y]).get j = K2.get j := fun S b x y hS j hj hjr => by
      rw [hx_get_old _ _ _ (by rw [Heap.next_set, kill_next]; omega), Heap.get_set_ne _ hjr]
      exact kill_same fun i' a b e => by have := hS i' a b e; omega
    have sepn : ∀ (S : AV) n rows, Rep K2 1 S rows → Sep (.sl (K2.next + 1) 0 n) S ∧ Sep S (.sl (K2.next + 1) 0 n) := fun S n rows h => by
      rcases h with ⟨rfl, _⟩ | ⟨id, rfl, hg⟩
      · exact ⟨fun i a b j c d _ e => (by cases e), fun i a b j c d e _ => (by cases e)⟩
      · have := Heap.get_lt hg
        exact ⟨fun i a b j c d e1 e2 => (by injection e1 with e1; injection e2 with e2; omega), fun i a b j c d e1 e2 => (by injection e1 with e1; injection e2 with e2; omega)⟩
    have nrow : ∀ r, K2.get rid ≠ some (.row false 1 r) := fun r e => by rw [r2] at e; cases e
    simp only [int, boolA] at zr zh
    have put : ∀ (S : AV) (n : Nat) (rows : List (List AV)) b x, (hx ((kill K2 S).set rid b) [x, .row false 1 rows]).get (K2.next + 1) = some (.row false 1 rows) := fun S n rows b x => by
      have := hx_get ((kill K2 S).set rid b) [x, .row false 1 rows] 1
      rw [Heap.next_set, kill_next] at this
      exact this
    by_cases c : i < m
    · have dm : ((i : Int) < m) = True := eq_true (by omega)
      have ap := fun nid L => appA_rep (nid := nid) (bytes := 8) rF (xs := [numC vals[i]]) (by simp) rfl (by rw [List.length_map, fl]; simp; omega) L
      rw [List.length_map, fl] at ap
      have et : (vals.take (min i m)).map numC ++ [numC vals[i]] = (vals.take (min (i + 1) m)).map numC := by
        rw [Nat.min_eq_left (by omega), Nat.min_eq_left (by omega), List.take_succ_eq_append_getElem gi, List.map_append]
        rfl
      rw [et] at ap
      simp only [numC, int, List.length_singleton] at ap
      have kr : (kill K2 F).get rid = _ := (kill_same fun i' a b e => by have := hF i' a b e; omega).trans r2
      have yk := fun L => get_old kr L
      have gs : ∀ L b, (hx (kill K2 F) L).set rid b = hx ((kill K2 F).set rid b) L := fun L b => hx_set_old _ L b rid (by rw [kill_next]; omega)
      simp only [int, boolA] at yk
      rw [← hx_nil K2]
      simp only [↓vp, vz, Nat.reduceLT, Nat.reduceEqDiff, Nat.reduceLeDiff, Nat.reduceAdd, Nat.reduceSub, Nat.reduceMul, Int.reduceBEq, Int.reduceBNe, Int.reduceLT, Int.reduceLE, Int.reduceEq, reduceIte, reduceCtorEq, da, int, boolA, dr, f0, f4, f6, f7, zh, zr, w2, dm, ap, kill_next, yk, gs, w1]
      rw [← hx_nil (hx _ _)]
      have e2 : (vals.take (i + 1)).drop m = (vals.take i).drop m := by rw [List.drop_eq_nil_of_le (by rw [List.length_take]; omega), List.drop_eq_nil_of_le (by rw [List.length_take]; omega)]
      refine ih (i + 1) _ _ (.sl (K2.next + 1) 0 (min i m + 1)) H (by omega) ⟨?_, ?_, ?_, ?_, ?_, ?_, ?_, ?_, ?_⟩ ?_ ?_ (fun j hj hjr hjc => ?_) (new _ _ rfl) hH ?_ ?_ ?_ ?_ ?_
      · exact get_old (Heap.get_set_self _ (by rw [kill_next]; omega)) _
      · rw [frame F _ _ _ hF hid hB.2.1 d3.symm, h2]
      · rw [frame F _ _ _ hF cid hB.2.2 d1.symm, q1]
        rfl
      · refine .inr ⟨K2.next + 1, by rw [List.length_map, List.length_take]; congr 1; omega, put _ 0 _ _ _⟩
      · rw [e2]
        exact rep_kill rH (fun i a b j c d e1 e2 => (hc.fh j c d i a b e2 e1).symm) rid _ nrow _
      · exact rep_kill rI (fun i a b j c d e1 e2 => (hc.fi j c d i a b e2 e1).symm) rid _ nrow _
      · exact (sepn H _ _ rH).1
      · exact (sepn I _ _ rI).1
      · exact hc.hi
      · rw [hx_next, Heap.next_set, kill_next]; omega
      · rw [hx_next, Heap.next_set, kill_next]; omega
      · rw [frame F _ _ _ hF j hj hjr, q3 j (by omega) hjc]
        exact hk j hj hjr hjc
      all_goals simp only [↓vp, vz, Nat.reduceLT, Nat.reduceEqDiff, Nat.reduceLeDiff, Nat.reduceAdd, Nat.reduceSub, Nat.reduceMul, Int.reduceBEq, Int.reduceBNe, Int.reduceLT, Int.reduceLE, Int.reduceEq, reduceIte, reduceCtorEq, da, int, boolA, f0, f4, f5, f6]
    · have dm : ((i : Int) < m) = False := eq_false (by omega)
      have ap := fun nid L => appA_rep (nid := nid) (bytes := 8) rH (xs := [numC vals[i]]) (by simp) rfl (by rw [List.length_map, hl]; simp; omega) L
      rw [List.length_map, hl] at ap
      have et : ((vals.take i).drop m).map numC ++ [numC vals[i]] = ((vals.take (i + 1)).drop m).map numC := by
        rw [List.take_succ_eq_append_getElem gi, List.drop_append_of_le_length (by rw [List.length_take]; omega), List.map_append]
        rfl
      rw [et] at ap
      simp only [numC, int, List.length_singleton] at ap
      have kr : (kill K2 H).get rid = _ := (kill_same fun i' a b e => by have := hH i' a b e; omega).trans r2
      have yk := fun L => get_old kr L
      have gs : ∀ L b, (hx (kill K2 H) L).set rid b = hx ((kill K2 H).set rid b) L := fun L b => hx_set_old _ L b rid (by rw [kill_next]; omega)
      simp only [int, boolA] at yk
      rw [← hx_nil K2]
      simp only [↓vp, vz, Nat.reduceLT, Nat.reduceEqDiff, Nat.reduceLeDiff, Nat.reduceAdd, Nat.reduceSub, Nat.reduceMul, Int.reduceBEq, Int.reduceBNe, Int.reduceLT, Int.reduceLE, Int.reduceEq, reduceIte, reduceCtorEq, da, int, boolA, dr, f0, f4, f6, f7, zh, zr, w2, dm, ap, kill_next, yk, gs, w1]
      rw [← hx_nil (hx _ _)]
      have e2 : vals.take (min (i + 1) m) = vals.take (min i m) := by rw [Nat.min_eq_right (by omega), Nat.min_eq_right (by omega)]
      refine ih (i + 1) _ _ F (.sl (K2.next + 1) 0 (i - m + 1)) (by omega) ⟨?_, ?_, ?_, ?_, ?_, ?_, ?_, ?_, ?_⟩ ?_ ?_ (fun j hj hjr hjc => ?_) hF (new _ _ rfl) ?_ ?_ ?_ ?_ ?_
      · exact get_old (Heap.get_set_self _ (by rw [kill_next]; omega)) _
      · rw [frame H _ _ _ hH hid hB.2.1 d3.symm, h2]
      · rw [frame H _ _ _ hH cid hB.2.2 d1.symm, q1]
        rfl
      · rw [e2]
        exact rep_kill rF hc.fh rid _ nrow _
      · refine .inr ⟨K2.next + 1, by rw [List.length_map, List.length_drop, List.length_take]; congr 1; omega, put _ 0 _ _ _⟩
      · exact rep_kill rI (fun i a b j c d e1 e2 => (hc.hi j c d i a b e2 e1).symm) rid _ nrow _
      · exact (sepn F _ _ rF).2
      · exact hc.fi
      · exact (sepn I _ _ rI).1
      · rw [hx_next, Heap.next_set, kill_next]; omega
      · rw [hx_next, Heap.next_set, kill_next]; omega
      · rw [frame H _ _ _ hH j hj hjr, q3 j (by omega) hjc]
        exact hk j hj hjr hjc
      all_goals simp only [↓vp, vz, Nat.reduceLT, Nat.reduceEqDiff, Nat.reduceLeDiff, Nat.reduceAdd, Nat.reduceSub, Nat.reduceMul, Int.reduceBEq, Int.reduceBNe, Int.reduceLT, Int.reduceLE, Int.reduceEq, reduceIte, reduceCtorEq, da, int, boolA, f0, f4, f5, f6]
end
structure RdS (K : Heap) (rid : Nat) (fn mp : AV) (F H I : AV) (fs hs is : List Int) : Prop where
 rd : K.get rid = some (.box false [fn,int 1,F,H,I,mp,boolA false])
 f : Rep K 1 F (fs.map numC)
 h : Rep K 1 H (hs.map numC)
 i : Rep K 1 I (is.map numC)
 fh : Sep F H
 fi : Sep F I
 hi : Sep H I
theorem o30 {K : Heap} {lid rid mid : Nat} (hl : K.get lid = some (.box false [encP [P1]])) (hr : K.get rid = some (.box false [rdF lid,int 1,.sc (.slice none 0 0),.sc (.slice none 0 0),.sc (.slice none 0 0),.mp mid,boolA false])) (hm : K.get mid = some (.mpb (some .i64) [] [] 0)) {Q : AV → Heap → Prop}
  (hq : ∀ K' F H I,RdS K' rid (rdF lid) (.mp mid) F H I [5,6] [9] [3] → K.next ≤ K'.next → (∀ j,j < K.next → j ≠ rid → j ≠ mid → K'.get j = K.get j) → Q (.tup []) K') : KW ftG (.fn (.func 30) [] []) [.ptr rid 0 0,int 3] K Q:=by
 have yr:=fun L => get_old hr L
 have lr:=Heap.get_lt hr
 have lm:=Heap.get_lt hm
 have nrm : rid ≠ mid:=fun e => by rw [e,hm] at hr; cases hr
 simp only [int,boolA] at yr
 refine call_W rfl (by simp) ?_
 unfold c30 r30
 generalize hLP : ACode.loop c30L2 = LP
 simp only [↓vp,vz,Nat.reduceLT,Nat.reduceEqDiff,Nat.reduceLeDiff,Nat.reduceAdd,Nat.reduceSub,Nat.reduceMul,Int.reduceBEq,Int.reduceBNe,Int.reduceLT,Int.reduceLE,Int.reduceEq,reduceIte,reduceCtorEq,da,int,boolA,dr]
 rw [← hLP,AW_loop,hLP]
 unfold c30L2
 simp only [↓vp,vz,Nat.reduceLT,Nat.reduceEqDiff,Nat.reduceLeDiff,Nat.reduceAdd,Nat.reduceSub,Nat.reduceMul,Int.reduceBEq,Int.reduceBNe,Int.reduceLT,Int.reduceLE,Int.reduceEq,reduceIte,reduceCtorEq,da,int,boolA,dr,yr]
 rw [hx_nil]
 refine o67 hl hr hm fun K1 cid q1 q2 q3 => ?_
 have r1 : K1.get rid = _:=(q3 rid lr nrm).trans hr
 have y1:=fun L => get_old r1 L
 have lr1:=Heap.get_lt r1
 have lc1:=Heap.get_lt q1
 have gs : ∀ L b,(hx K1 L).set rid b = hx (K1.set rid b) L:=fun L b => hx_set_old K1 L b rid lr1
 unfold hd1
 simp only [int,boolA] at y1
 rw [← hx_nil K1]
 simp only [↓vp,vz,Nat.reduceLT,Nat.reduceEqDiff,Nat.reduceLeDiff,Nat.reduceAdd,Nat.reduceSub,Nat.reduceMul,Int.reduceBEq,Int.reduceBNe,Int.reduceLT,Int.reduceLE,Int.reduceEq,reduceIte,reduceCtorEq,da,int,boolA,dr,y1,gs]
 have ncr : cid ≠ rid:=by omega
 have n2 : (hx (K1.set rid (.box false [rdF lid,.sc (.int .i64 1),.sc (.slice none 0 0),.sc (.slice none 0 0),.sl (K1.next + 2) 0 1,.mp mid,.sc (.bool false)])) [.box false [.sc (.int .i64 70),.sc (.int .i64 1),.sc (.int .i64 3),.sc (.int .i64 0)],.row false 1 [[.sc (.int .i64 3)]],.row false 1 [[.sc (.int .i64 3)]]]).next = K1.next + 3:=by rw [hx_next,Heap.next_set]; rfl
 have a2 : ∀ i b,([Blk.box false [.sc (.int .i64 70),.sc (.int .i64 1),.sc (.int .i64 3),.sc (.int .i64 0)],.row false 1 [[.sc (.int .i64 3)]],.row false 1 [[.sc (.int .i64 3)]]] : List Blk)[i]? = some b → (hx (K1.set rid (.box false [rdF lid,.sc (.int .i64 1),.sc (.slice none 0 0),.sc (.slice none 0 0),.sl (K1.next + 2) 0 1,.mp mid,.sc (.bool false)])) [.box false [.sc (.int .i64 70),.sc (.int .i64 1),.sc (.int .i64 3),.sc (.int .i64 0)],.row false 1 [[.sc (.int .i64 3)]],.row false 1 [[.sc (.int .i64 3)]]]).get (K1.next + i) = some b:=fun i b h => by
  have:=hx_get (K1.set rid (.box false [rdF lid,.sc (.int .i64 1),.sc (.slice none 0 0),.sc (.slice none 0 0),.sl (K1.next + 2) 0 1,.mp mid,.sc (.bool false)])) [.box false [.sc (.int .i64 70),.sc (.int .i64 1),.sc (.int .i64 3),.sc (.int .i64 0)],.row false 1 [[.sc (.int .i64 3)]],.row false 1 [[.sc (.int .i64 3)]]] i
  rw [Heap.next_set] at this
  rw [this]
  exact h
 have rr : (hx (K1.set rid (.box false [rdF lid,.sc (.int .i64 1),.sc (.slice none 0 0),.sc (.slice none 0 0),.sl (K1.next + 2) 0 1,.mp mid,.sc (.bool false)])) [.box false [.sc (.int .i64 70),.sc (.int .i64 1),.sc (.int .i64 3),.sc (.int .i64 0)],.row false 1 [[.sc (.int .i64 3)]],.row false 1 [[.sc (.int .i64 3)]]]).get rid = some (.box false [rdF lid,.sc (.int .i64 1),.sc (.slice none 0 0),.sc (.slice none 0 0),.sl (K1.next + 2) 0 1,.mp mid,.sc (.bool false)]):=get_old (Heap.get_set_self _ lr1) _
 have e2 : ∀ j,j < K1.next → j ≠ rid → (hx (K1.set rid (.box false [rdF lid,.sc (.int .i64 1),.sc (.slice none 0 0),.sc (.slice none 0 0),.sl (K1.next + 2) 0 1,.mp mid,.sc (.bool false)])) [.box false [.sc (.int .i64 70),.sc (.int .i64 1),.sc (.int .i64 3),.sc (.int .i64 0)],.row false 1 [[.sc (.int .i64 3)]],.row false 1 [[.sc (.int .i64 3)]]]).get j = K1.get j:=fun j hj hjr => by rw [hx_get_old _ _ _ (by rw [Heap.next_set]; exact hj),Heap.get_set_ne _ hjr]
 generalize hx (K1.set rid (.box false [rdF lid,.sc (.int .i64 1),.sc (.slice none 0 0),.sc (.slice none 0 0),.sl (K1.next + 2) 0 1,.mp mid,.sc (.bool false)])) [.box false [.sc (.int .i64 70),.sc (.int .i64 1),.sc (.int .i64 3),.sc (.int .i64 0)],.row false 1 [[.sc (.int .i64 3)]],.row false 1 [[.sc (.int .i64 3)]]] = K2 at *
 have hh:=a2 0 _ rfl
 have hi:=a2 2 _ rfl
 rw [Nat.add_zero] at hh
 have c2 : K2.get cid = some (curB (encB (P1.drop 8)) ((0 : Nat) : Int) false):=(e2 cid lc1 ncr).trans q1
 have bl : (P1.drop 8).length = 248:=by rw [List.length_drop,P1_len]
 obtain ⟨v0,v1,v2,v3⟩:=P1_vals
 refine o61 (a:=0) (w:=4) c2 (by decide) (by decide) (by rw [bl]; decide) (by rw [bl]; decide) (by rw [v0]; decide) (by rw [v0]; decide) fun K3 t1 t2 t3 => ?_
 rw [v0]
 have r3 : K3.get rid = _:=(t3 rid (by omega) ncr.symm).trans rr
 have h3 : K3.get K1.next = _:=(t3 K1.next (by omega) (by omega)).trans hh
 have i3 : K3.get (K1.next + 2) = _:=(t3 (K1.next + 2) (by omega) (by omega)).trans hi
 have nil : ∀ i a b,(AV.sc (.slice none 0 0)) ≠ .sl i a b:=fun _ _ _ h => by cases h
 rw [← hx_nil K3]
 simp only [↓vp,vz,Nat.reduceLT,Nat.reduceEqDiff,Nat.reduceLeDiff,Nat.reduceAdd,Nat.reduceSub,Nat.reduceMul,Int.reduceBEq,Int.reduceBNe,Int.reduceLT,Int.reduceLE,Int.reduceEq,reduceIte,reduceCtorEq,da,int,boolA,dr]
 refine l30 (bb:=P1.drop 8) (vals:=[5,6,9]) (m:=2) (held:=1) (by rw [bl]; decide) (by rw [bl]; decide) (fun k hk => ?_) rfl (rid:=rid) (hid:=K1.next) (cid:=cid) (fn:=rdF lid) (mp:=.mp mid) (I:=.sl (K1.next + 2) 0 1) (is:=[3]) (K1.next + 2) (fun i a b e => by injection e with e; omega) ⟨by omega,by omega,by omega⟩ ncr.symm (by omega) (by omega) K3 (.sc .nilIface) (.sc .nilIface) (fun f' K4 F H hc hn hk g0 g4 g5 => ?_) 3 0 K3 _ (.sc (.slice none 0 0)) (.sc (.slice none 0 0)) rfl ⟨r3,h3,t1,.inl ⟨rfl,rfl⟩,.inl ⟨rfl,rfl⟩,.inr ⟨K1.next + 2,rfl,i3⟩,fun i a b j c d e _ => absurd e (nil _ _ _),fun i a b j c d e _ => absurd e (nil _ _ _),fun i a b j c d e _ => absurd e (nil _ _ _)⟩ (by omega) (Nat.le_refl _) (fun _ _ _ _ => rfl) (fun i a b e => absurd e (nil _ _ _)) (fun i a b e => absurd e (nil _ _ _)) ?_ ?_ ?_ ?_ ?_
 ·match k,hk with
  | 0,_ => exact ⟨v1,(by decide : (0:Int) ≤ 5),(by decide : (5:Int) ≤ 4294967295)⟩
  | 1,_ => exact ⟨v2,(by decide : (0:Int) ≤ 6),(by decide : (6:Int) ≤ 4294967295)⟩
  | 2,_ => exact ⟨v3,(by decide : (0:Int) ≤ 9),(by decide : (9:Int) ≤ 4294967295)⟩
 rotate_left
 iterate 5 first | (focus (simp only [↓vp,vz,Nat.reduceLT,Nat.reduceEqDiff,Nat.reduceLeDiff,Nat.reduceAdd,Nat.reduceSub,Nat.reduceMul,Int.reduceBEq,Int.reduceBNe,Int.reduceLT,Int.reduceLE,Int.reduceEq,reduceIte,reduceCtorEq,da,int,boolA]; done)) | (focus (simp only [↓vp,vz,Nat.reduceLT,Nat.reduceEqDiff,Nat.reduceLeDiff,Nat.reduceAdd,Nat.reduceSub,Nat.reduceMul,Int.reduceBEq,Int.reduceBNe,Int.reduceLT,Int.reduceLE,Int.reduceEq,reduceIte,reduceCtorEq,da,int,boolA]; rfl))
 have yr4:=fun L => get_old hc.rd L
 have yh4:=fun L => get_old hc.hd L
 have lr4:=Heap.get_lt hc.rd
 have k62 : ∀ L Q,KW ftG (.fn (.func 62) [] []) [.ptr cid 0 0] (hx K4 L) Q ↔ Q (int 0) (hx K4 L):=fun L Q => o62 (cid:=cid) (get_old hc.cu L)
 have gs4 : ∀ L b,(hx K4 L).set rid b = hx (K4.set rid b) L:=fun L b => hx_set_old K4 L b rid lr4
 have same : K4.set rid (.box false [rdF lid,.sc (.int .i64 1),F,H,.sl (K1.next + 2) 0 1,.mp mid,.sc (.bool false)]) = K4:=by
  have:=hc.rd
  simp only [int,boolA] at this
  exact heapSetSame this
 simp only [int,boolA] at yr4 yh4 k62
 unfold c30R1
 simp only [↓vp,vz,Nat.reduceLT,Nat.reduceEqDiff,Nat.reduceLeDiff,Nat.reduceAdd,Nat.reduceSub,Nat.reduceMul,Int.reduceBEq,Int.reduceBNe,Int.reduceLT,Int.reduceLE,Int.reduceEq,reduceIte,reduceCtorEq,da,int,boolA,dr,g0,g4,g5,yr4,yh4,k62,gs4,same]
 rw [← hLP,AW_loop,hLP]
 unfold c30L2
 simp only [↓vp,vz,Nat.reduceLT,Nat.reduceEqDiff,Nat.reduceLeDiff,Nat.reduceAdd,Nat.reduceSub,Nat.reduceMul,Int.reduceBEq,Int.reduceBNe,Int.reduceLT,Int.reduceLE,Int.reduceEq,reduceIte,reduceCtorEq,da,int,boolA,dr]
 rw [rw0,hx_nil]
 refine ⟨rfl,hq K4 F H _ ⟨hc.rd,hc.f,hc.h,hc.i,hc.fh,hc.fi,hc.hi⟩ (by omega) fun j hj hjr hjm => ?_⟩
 have u1:=hk j (by omega) hjr (by omega)
 have u2:=t3 j (by omega) (by omega)
 have u3:=e2 j (by omega) hjr
 rw [u1,u2,u3]
 exact q3 j hj hjm
end Go.VI
namespace Go.VI
attribute [local congr] AW_congr OW_congr DW_congr NW_congr VW_congr GW_congr PW_congr KW_congr ite_congr' GV_congr CV_congr KF_congr
theorem row_frz {H : Heap} {id n : Nat} {fz : Bool} {rs : List (List AV)} (hg : H.get id = some (.row fz 1 rs)) (hl : n = rs.length) (k : Nat) : frz (k + 1) H (.sl id 0 n) = some (.lst rs,H.set id (.row true 1 rs)):=by
 rw [frz_sl,hg]
 subst hl
 show (if 0 + rs.length ≤ rs.length then some (AV.lst ((rs.drop 0).take rs.length),if fz = true then H else H.set id (.row true 1 rs)) else none) = _
 rw [if_pos (by omega),List.drop_zero,List.take_of_length_le (Nat.le_refl _)]
 cases fz with
 | false => rfl
 | true => rw [if_pos rfl,heapSetSame hg]
theorem kS32 {H : Heap} {id n : Nat} {fz : Bool} {l : List Int} (hg : H.get id = some (.row fz 1 (l.map numC))) (hn : n = l.length) (hl : l.length ≤ 1000000) {Q : AV → Heap → Prop} :
  KW ftG (.fn (.func 32) [] []) [.sl id 0 n] H Q ↔ Q (encR (ofM l)) (H.set id (.row true 1 (l.map numC))) :=
 kG_of rfl (as':=[encN l]) (by rw [frzCells_eq,frzL_cons,row_frz hg (by simpa using hn)]; rfl) rfl (callL_sub ftM_sub (s32 l hl Heap.empty))
theorem o33 {K : Heap} {lid rid iid : Nat} {F H mp : AV} {fz : Bool} (hl : K.get lid = some (.box false [encP [P1]])) (hr : K.get rid = some (.box false [rdF lid,int 1,F,H,.sl iid 0 1,mp,boolA false])) (hi : K.get iid = some (.row fz 1 [[int 3]])) {Q : AV → Heap → Prop}
  (hq : Q (boolA true) K) : KW ftG (.fn (.func 33) [] []) [.ptr rid 0 0,encP [P1]] K Q:=by
 have yr:=fun L => get_old hr L
 have yi:=fun L => get_old hi L
 have k25:=fun L Q => @o25 (hx K L) lid (get_old hl L) Q 3
 have k26:=fun L Q => @KW_of ftG _ _ _ Q _ _ (p26 P1 (args:=[encB P1,encB P1]) (H:=hx K L) rfl)
 have i0 : ∀ H,iaddrA H none 1 (encP [P1]) 0 = some (.pim [[encB P1]] 0 0):=fun _ => rfl
 have c0 : ∀ H off n,cellsAt H (.pim [[encB P1]] 0 off) n = if off + n ≤ 1 then some ((([encB P1] : List AV).drop off).take n) else none:=fun _ _ _ => rfl
 have ir : ∀ L,iaddrA (hx K L) none 1 (.sl iid 0 1) 0 = some (.ptr iid 0 0):=fun L => by
  have : rowSz (hx K L) iid = some 1:=by unfold rowSz; rw [yi L]
  show (if (0 : Int) ≤ 0 ∧ (0 : Int) < ((1 : Nat) : Int) ∧ rowSz (hx K L) iid = some 1 then _ else _) = _
  rw [if_pos ⟨by decide,by decide,this⟩]
  rfl
 have d0 : ((0 : Int) < ((1 : Nat) : Int)) = True:=by decide
 have d1 : ((1 : Int) < ((1 : Nat) : Int)) = False:=by decide
 have w1 : IntKind.i64.wrap (0 + 1) = 1:=by decide
 simp only [int,boolA] at yr yi k25 k26
 refine call_W rfl (by simp) ?_
 unfold c33 r33
 generalize hLP : ACode.loop c33L0 = LP
 simp only [↓vp,vz,Nat.reduceLT,Nat.reduceEqDiff,Nat.reduceLeDiff,Nat.reduceAdd,Nat.reduceSub,Nat.reduceMul,Int.reduceBEq,Int.reduceBNe,Int.reduceLT,Int.reduceLE,Int.reduceEq,reduceIte,reduceCtorEq,da,int,boolA,dr,yr]
 rw [← hLP,AW_loop,hLP]
 unfold c33L0
 simp only [↓vp,vz,Nat.reduceLT,Nat.reduceEqDiff,Nat.reduceLeDiff,Nat.reduceAdd,Nat.reduceSub,Nat.reduceMul,Int.reduceBEq,Int.reduceBNe,Int.reduceLT,Int.reduceLE,Int.reduceEq,reduceIte,reduceCtorEq,da,int,boolA,dr,yr,yi,ir,k25,k26,i0,c0,d0,w1]
 rw [← hLP,AW_loop,hLP]
 unfold c33L0 c33R1
 simp only [↓vp,vz,Nat.reduceLT,Nat.reduceEqDiff,Nat.reduceLeDiff,Nat.reduceAdd,Nat.reduceSub,Nat.reduceMul,Int.reduceBEq,Int.reduceBNe,Int.reduceLT,Int.reduceLE,Int.reduceEq,reduceIte,reduceCtorEq,da,int,boolA,dr,d1]
 rw [rw1,hx_nil]
 refine ⟨rfl,?_⟩
 simp only [↓vp,vz,Nat.reduceLT,Nat.reduceEqDiff,Nat.reduceLeDiff,Nat.reduceAdd,Nat.reduceSub,Nat.reduceMul,Int.reduceBEq,Int.reduceBNe,Int.reduceLT,Int.reduceLE,Int.reduceEq,reduceIte,reduceCtorEq,da,int,boolA]
 exact hq
theorem k9n {K : Heap} {Q : AV → Heap → Prop} : KW ftG (.fn (.func 9) [] []) [.sc .nilFunc,int 3] K Q ↔ Q (.tup [int 0,.agg [.sc (.slice none 0 0),.sc (.slice none 0 0)],.sc (.slice none 0 0),int 1]) (hx K [.box false [.sc (.slice none 0 0),.sc (.slice none 0 0)]]):=by
 refine KW_of (call_o rfl (by simp) ?_)
 unfold c9 r9 RetO
 have isn : isnilA 3 (.sc .nilFunc) = some true:=rfl
 simp only [↓vp,vz,Nat.reduceLT,Nat.reduceEqDiff,Nat.reduceLeDiff,Nat.reduceAdd,Nat.reduceSub,Nat.reduceMul,Int.reduceBEq,Int.reduceBNe,Int.reduceLT,Int.reduceLE,Int.reduceEq,reduceIte,reduceCtorEq,da,int,boolA,dr,isn,resultsA,resC,resT,resN]
theorem rep_sl {K : Heap} {S : AV} {x : List AV} {rows : List (List AV)} (h : Rep K 1 S (x :: rows)) : ∃ i,S = .sl i 0 (rows.length + 1) ∧ K.get i = some (.row false 1 (x :: rows)):=by
 rcases h with ⟨_,h⟩ | ⟨i,h1,h2⟩
 ·cases h
 ·exact ⟨i,h1,h2⟩
theorem o9 {K : Heap} {lid : Nat} (hl : K.get lid = some (.box false [encP [P1]])) {Q : AV → Heap → Prop} (hq : ∀ K' iid,K'.get iid = some (.row true 1 [[int 3]]) → K.next ≤ K'.next → (∀ j b,K.get j = some b → (∀ r,b ≠ .row false 1 r) → K'.get j = some b) → Q (.tup [int 1,.agg [encR AF,encR AH],.sl iid 0 1,int 0]) K') :
  KW ftG (.fn (.func 9) [] []) [rdF lid,int 3] K Q:=by
 have lid':=Heap.get_lt hl
 have yl:=fun L => get_old hl L
 have isn : isnilA 3 (rdF lid) = some false:=rfl
 have k25:=fun L Q => @o25 (hx K L) lid (get_old hl L) Q 3
 have k28':=fun K L Q => @k28 K L Q
 have k29':=fun K L Q => @k29 1 K L Q
 rw [show chainB 1 = true by decide] at k29'
 unfold hd1 at k28'
 simp only [int,boolA] at k25 k28' k29'
 refine call_W rfl (by simp) ?_
 unfold c9 r9
 have cl : (rdF lid).cells = [rdF lid]:=rfl
 have on : (rdF lid).one = true:=rfl
 simp only [↓vp,vz,Nat.reduceLT,Nat.reduceEqDiff,Nat.reduceLeDiff,Nat.reduceAdd,Nat.reduceSub,Nat.reduceMul,Int.reduceBEq,Int.reduceBNe,Int.reduceLT,Int.reduceLE,Int.reduceEq,reduceIte,reduceCtorEq,da,int,boolA,dr,isn,k25,k28',k29',cl,on]
 have g0:=hx_get K [.box false [.sc (.slice none 0 0),.sc (.slice none 0 0)],.box false [.sc (.int .i64 70),.sc (.int .i64 1),.sc (.int .i64 3),.sc (.int .i64 0)],.mpb (some .i64) [] [] 0,.box false [rdF lid,.sc (.int .i64 1),.sc (.slice none 0 0),.sc (.slice none 0 0),.sc (.slice none 0 0),.mp (K.next + 2),.sc (.bool false)]]
 have gl:=get_old hl [.box false [.sc (.slice none 0 0),.sc (.slice none 0 0)],.box false [.sc (.int .i64 70),.sc (.int .i64 1),.sc (.int .i64 3),.sc (.int .i64 0)],.mpb (some .i64) [] [] 0,.box false [rdF lid,.sc (.int .i64 1),.sc (.slice none 0 0),.sc (.slice none 0 0),.sc (.slice none 0 0),.mp (K.next + 2),.sc (.bool false)]]
 have n1 : (hx K [.box false [.sc (.slice none 0 0),.sc (.slice none 0 0)],.box false [.sc (.int .i64 70),.sc (.int .i64 1),.sc (.int .i64 3),.sc (.int .i64 0)],.mpb (some .i64) [] [] 0,.box false [rdF lid,.sc (.int .i64 1),.sc (.slice none 0 0),.sc (.slice none 0 0),.sc (.slice none 0 0),.mp (K.next + 2),.sc (.bool false)]]).next = K.next + 4:=hx_next _ _
 have o1 : ∀ j,j < K.next → (hx K [.box false [.sc (.slice none 0 0),.sc (.slice none 0 0)],.box false [.sc (.int .i64 70),.sc (.int .i64 1),.sc (.int .i64 3),.sc (.int .i64 0)],.mpb (some .i64) [] [] 0,.box false [rdF lid,.sc (.int .i64 1),.sc (.slice none 0 0),.sc (.slice none 0 0),.sc (.slice none 0 0),.mp (K.next + 2),.sc (.bool false)]]).get j = K.get j:=fun j hj => hx_get_old _ _ _ hj
 generalize hx K [.box false [.sc (.slice none 0 0),.sc (.slice none 0 0)],.box false [.sc (.int .i64 70),.sc (.int .i64 1),.sc (.int .i64 3),.sc (.int .i64 0)],.mpb (some .i64) [] [] 0,.box false [rdF lid,.sc (.int .i64 1),.sc (.slice none 0 0),.sc (.slice none 0 0),.sc (.slice none 0 0),.mp (K.next + 2),.sc (.bool false)]] = K1 at *
 have r5 : K1.get K.next = some (.box false [.sc (.slice none 0 0),.sc (.slice none 0 0)]):=g0 0
 have rr : K1.get (K.next + 3) = some (.box false [rdF lid,.sc (.int .i64 1),.sc (.slice none 0 0),.sc (.slice none 0 0),.sc (.slice none 0 0),.mp (K.next + 2),.sc (.bool false)]):=g0 3
 have rm : K1.get (K.next + 2) = some (.mpb (some .i64) [] [] 0):=g0 2
 refine o30 gl rr rm fun K4 F H I hc hn hk => ?_
 obtain ⟨hrd,hF,hH,hI,hFH,hFI,hHI⟩:=hc
 obtain ⟨f1,rfl,e1⟩:=rep_sl (x:=numC 5) (rows:=[numC 6]) hF
 obtain ⟨f2,rfl,e2⟩:=rep_sl (x:=numC 9) (rows:=[]) hH
 obtain ⟨f3,rfl,e3⟩:=rep_sl (x:=numC 3) (rows:=[]) hI
 have d12 : f1 ≠ f2:=hFH _ _ _ _ _ _ rfl rfl
 have d13 : f1 ≠ f3:=hFI _ _ _ _ _ _ rfl rfl
 have d23 : f2 ≠ f3:=hHI _ _ _ _ _ _ rfl rfl
 have u5 : K4.get K.next = some (.box false [.sc (.slice none 0 0),.sc (.slice none 0 0)]):=(hk K.next (by omega) (by omega) (by omega)).trans r5
 have ul : K4.get lid = some (.box false [encP [P1]]):=(hk lid (by omega) (by omega) (by omega)).trans gl
 have l1:=Heap.get_lt e1
 have l2:=Heap.get_lt e2
 have l3:=Heap.get_lt e3
 have old : ∀ j,j < K.next → K4.get j = K.get j:=fun j hj => (hk j (by omega) (by omega) (by omega)).trans (o1 j hj)
 have hn4 : K.next + 4 ≤ K4.next:=by omega
 have ne : ∀ j b,(∀ r,b ≠ .row false 1 r) → K4.get j = some b → j ≠ f1 ∧ j ≠ f2 ∧ j ≠ f3:=fun j b hb hj => ⟨fun e => by rw [e,e1] at hj; injection hj with hj; exact hb _ hj.symm,fun e => by rw [e,e2] at hj; injection hj with hj; exact hb _ hj.symm,fun e => by rw [e,e3] at hj; injection hj with hj; exact hb _ hj.symm⟩
 obtain ⟨a1,a2,a3⟩:=ne _ _ (fun r e => by cases e) hrd
 obtain ⟨b1,b2,b3⟩:=ne _ _ (fun r e => by cases e) u5
 obtain ⟨c1,c2,c3⟩:=ne _ _ (fun r e => by cases e) ul
 generalize e5 : K4.set f1 (.row true 1 [numC 5,numC 6]) = K5
 generalize e6 : K5.set f2 (.row true 1 [numC 9]) = K6
 generalize e7 : K6.set f3 (.row true 1 [numC 3]) = K7
 have m5 : K5.next = K4.next:=by rw [← e5,Heap.next_set]
 have m6 : K6.next = K4.next:=by rw [← e6,Heap.next_set,m5]
 have m7 : K7.next = K4.next:=by rw [← e7,Heap.next_set,m6]
 have t5 : ∀ j,j ≠ f1 → K5.get j = K4.get j:=fun j h => by rw [← e5,Heap.get_set_ne _ h]
 have t6 : ∀ j,j ≠ f2 → K6.get j = K5.get j:=fun j h => by rw [← e6,Heap.get_set_ne _ h]
 have t7 : ∀ j,j ≠ f3 → K7.get j = K6.get j:=fun j h => by rw [← e7,Heap.get_set_ne _ h]
 have j32 : ∀ L Q,KW ftG (.fn (.func 32) [] []) [.sl f1 0 2] (hx K4 L) Q ↔ Q (encR AF) (hx K5 L):=fun L Q => by
  have:=@kS32 (hx K4 L) f1 2 false [5,6] (get_old e1 L) rfl (by simp) Q
  rw [A_of.1,hx_set_old _ L _ f1 (by omega)] at this
  rw [← e5]
  exact this
 have j32' : ∀ L Q,KW ftG (.fn (.func 32) [] []) [.sl f2 0 1] (hx K5 L) Q ↔ Q (encR AH) (hx K6 L):=fun L Q => by
  have:=@kS32 (hx K5 L) f2 1 false [9] (get_old ((t5 f2 d12.symm).trans e2) L) rfl (by simp) Q
  rw [A_of.2,hx_set_old _ L _ f2 (by omega)] at this
  rw [← e6]
  exact this
 have w4:=fun L => get_old hrd L
 have w5:=fun L => get_old ((t5 _ a1).trans hrd) L
 have w6:=fun L => get_old ((t6 _ a2).trans ((t5 _ a1).trans hrd)) L
 have w7:=fun L => get_old ((t7 _ a3).trans ((t6 _ a2).trans ((t5 _ a1).trans hrd))) L
 have z6:=fun L => get_old ((t6 _ d23.symm).trans ((t5 _ d13.symm).trans e3)) L
 have z7 : ∀ L,(hx K7 L).get f3 = some (.row true 1 [numC 3]):=fun L => get_old (by rw [← e7,Heap.get_set_self _ (by omega)]) L
 have x7:=fun L => get_old ((t7 _ c3).trans ((t6 _ c2).trans ((t5 _ c1).trans ul))) L
 have f4 : ∀ L,frzCells (hx K6 L) [int 1,.agg [encR AF,encR AH],.sl f3 0 1] = some ([int 1,.agg [encR AF,encR AH],encN [3]],hx K7 L):=fun L => by
  have h3 : (hx K6 L).set f3 (.row true 1 [numC 3]) = hx K7 L:=by rw [← e7]; exact hx_set_old _ L _ f3 (by omega)
  have zi : ∀ H,frz 23 H (int 1) = some (int 1,H):=fun _ => rfl
  have za : ∀ H,frz 22 H (.agg [encR AF,encR AH]) = some (.agg [encR AF,encR AH],H):=fun _ => rfl
  rw [frzCells_eq,frzL_cons,zi,Option.bind_some,frzL_cons,za,Option.bind_some,frzL_cons,show frz 21 (AV.agg [encR AF,encR AH],(int 1,hx K6 L).snd).snd (AV.sl f3 0 1) = _ from row_frz (n:=1) (z6 L) rfl 20,h3]
  rfl
 have f7 : ∀ L,frzCells (hx K7 L) [int 1,.sl f3 0 1] = some ([int 1,encN [3]],hx K7 L):=fun L => by
  have zi : ∀ H,frz 23 H (int 1) = some (int 1,H):=fun _ => rfl
  rw [frzCells_eq,frzL_cons,zi,Option.bind_some,frzL_cons,show frz 22 (int 1,hx K7 L).snd (AV.sl f3 0 1) = _ from row_frz (n:=1) (z7 L) rfl 21,heapSetSame (z7 L)]
  rfl
 have k18:=fun L Q => @KW_of ftG _ _ _ Q _ _ (p18 AF AH [3] (by simp [AF]) (by simp [AH]) (by simp) (f4 L))
 rw [A_right,A_need,A_places,alive_pages] at k18
 have k20:=fun L Q => @KW_of ftG _ _ _ Q _ _ (p20 1 [3] (by simp) (f7 L))
 rw [show firstM 1 [3] = 3 from rfl] at k20
 have k33 : ∀ L Q,Q (boolA true) (hx K7 L) → KW ftG (.fn (.func 33) [] []) [.ptr (K.next + 3) 0 0,encP [P1]] (hx K7 L) Q:=fun L Q h => o33 (x7 L) (w7 L) (z7 L) h
 simp only [Bool.and_self,if_true,int,boolA] at k18 k20 k33 w4 w5 w6 w7
 change ∀ L,(hx K4 L).get (K.next + 3) = some (Blk.box false [rdF lid,_,.sl f1 0 2,.sl f2 0 1,.sl f3 0 1,_,_]) at w4
 change ∀ L,(hx K5 L).get (K.next + 3) = some (Blk.box false [rdF lid,_,.sl f1 0 2,.sl f2 0 1,.sl f3 0 1,_,_]) at w5
 change ∀ L,(hx K6 L).get (K.next + 3) = some (Blk.box false [rdF lid,_,.sl f1 0 2,.sl f2 0 1,.sl f3 0 1,_,_]) at w6
 change ∀ L,(hx K7 L).get (K.next + 3) = some (Blk.box false [rdF lid,_,.sl f1 0 2,.sl f2 0 1,.sl f3 0 1,_,_]) at w7
 have v1 : ∀ i n,pureV ftG (.fn (.func 32) [] []) [.sl i 0 n] = some (true,[i]):=fun _ _ => rfl
 rw [← hx_nil K4]
 simp only [↓vp,vz,Nat.reduceLT,Nat.reduceEqDiff,Nat.reduceLeDiff,Nat.reduceAdd,Nat.reduceSub,Nat.reduceMul,Int.reduceBEq,Int.reduceBNe,Int.reduceLT,Int.reduceLE,Int.reduceEq,reduceIte,reduceCtorEq,da,int,boolA,dr,w4,w5,w6,w7,j32,j32',k18,k20,v1,m6,m7]
 refine ⟨by rw [compat_ne a1.symm,compat_ne (show K.next + 3 ≠ K4.next by omega),compat_ne (show f1 ≠ K4.next by omega),compat_ne (show f2 ≠ K4.next by omega)]; rfl,k33 _ _ ?_⟩
 have y5:=fun L => get_old ((t7 _ b3).trans ((t6 _ b2).trans ((t5 _ b1).trans u5))) L
 have cn : compat (.loc false [K.next + 3]) (.loc true [K.next]) = true:=compat_ne (by omega)
 have gs : ∀ L b,(hx K7 L).set K.next b = hx (K7.set K.next b) L:=fun L b => hx_set_old K7 L b _ (by omega)
 have sd : sids [encR AF,encR AH] = some []:=rfl
 simp only [↓vp,vz,Nat.reduceLT,Nat.reduceEqDiff,Nat.reduceLeDiff,Nat.reduceAdd,Nat.reduceSub,Nat.reduceMul,Int.reduceBEq,Int.reduceBNe,Int.reduceLT,Int.reduceLE,Int.reduceEq,reduceIte,reduceCtorEq,da,int,boolA,dr,w7,y5,m7,cn,gs,sd]
 have ys : ∀ L,(hx (K7.set K.next (.box false [encR AF,encR AH])) L).get K.next = some (.box false [encR AF,encR AH]):=fun L => get_old (Heap.get_set_self _ (by omega)) L
 unfold RetW resultsA
 refine ⟨rfl,?_⟩
 simp only [↓vp,vz,Nat.reduceLT,Nat.reduceEqDiff,Nat.reduceLeDiff,Nat.reduceAdd,Nat.reduceSub,Nat.reduceMul,Int.reduceBEq,Int.reduceBNe,Int.reduceLT,Int.reduceLE,Int.reduceEq,reduceIte,reduceCtorEq,da,int,boolA,dr,resC,resT,resN,ys]
 refine ⟨_,rfl,hq _ f3 ?_ ?_ fun j b hj hb => ?_⟩
 ·rw [hx_get_old _ _ _ (by rw [Heap.next_set]; omega),Heap.get_set_ne _ b3.symm]
  have:=z7 []
  rwa [hx_nil] at this
 ·rw [hx_next,Heap.next_set]; omega
 ·have lj:=Heap.get_lt hj
  have h4:=(old j lj).trans hj
  obtain ⟨p1,p2,p3⟩:=ne j b hb h4
  rw [hx_get_old _ _ _ (by rw [Heap.next_set]; omega),Heap.get_set_ne _ (by omega),t7 _ p3,t6 _ p2,t5 _ p1,h4]
end Go.VI
namespace Go.VI
attribute [local congr] AW_congr OW_congr DW_congr NW_congr VW_congr GW_congr PW_congr KW_congr ite_congr' GV_congr CV_congr KF_congr
theorem AW_sub {ft ft' : FT} (hs : Sub ft ft') {c : ACode} {e : Env} {H : Heap} {Q : AExit → Env → Heap → Prop} (h : AW ft c e H Q) : AW ft' c e H Q:=by
 obtain ⟨x,e',H',h,hq⟩:=h
 obtain ⟨n,hn⟩:=execL_some.1 h
 exact ⟨x,e',H',execL_some.2 ⟨n,exec_sub hs n _ _ _ _ hn⟩,hq⟩
noncomputable def ftG8 : FT
 | 8 => some (.go true 97 r8 c8)
 | k => ftG k
theorem ftG8_sub : Sub ftG ftG8:=by
 intro k d h
 unfold ftG8
 split
 ·exact absurd h (by unfold ftG ft; simp)
 ·exact h
theorem row_frz2 {H : Heap} {id n sz : Nat} {fz : Bool} {rs : List (List AV)} (hg : H.get id = some (.row fz sz rs)) (hl : n = rs.length) (k : Nat) : frz (k + 1) H (.sl id 0 n) = some (.lst rs,H.set id (.row true sz rs)):=by
 rw [frz_sl,hg]
 subst hl
 show (if 0 + rs.length ≤ rs.length then some (AV.lst ((rs.drop 0).take rs.length),if fz = true then H else H.set id (.row true sz rs)) else none) = _
 rw [if_pos (by omega),List.drop_zero,List.take_of_length_le (Nat.le_refl _)]
 cases fz with
 | false => rfl
 | true => rw [if_pos rfl,heapSetSame hg]
theorem frz_st {H : Heap} {i j n m : Nat} {a b : List (List AV)} (h1 : H.get i = some (.row true 2 a)) (h2 : H.get j = some (.row true 2 b)) (hn : n = a.length) (hm : m = b.length) (k : Nat) : frz (k + 4) H (.agg [.sl i 0 n,.sl j 0 m]) = some (.agg [.lst a,.lst b],H):=by
 rw [frz_agg,frzL_cons,row_frz2 h1 hn,heapSetSame h1,Option.bind_some,frzL_cons,row_frz2 h2 hm,heapSetSame h2]
 rfl
theorem c8_body : AW ftG c8 (mkE 97 (ofL [])) (hx Heap.empty []) (RetP r8 (boolA true)):=by
 unfold c8 r8
 have k18:=fun Q => @KW_of ftG _ _ _ Q _ _ (p18 AF AH [3] (args:=[int 1,.agg [.sl 0 0 1,.sl 1 0 1],.sl 3 0 1]) (by simp [AF]) (by simp [AH]) (by simp)
  (H:=hx Heap.empty [.row false 2 [[int 5,int 2]],.row false 2 [[int 9,int 1]],.box false [.sl 0 0 1,.sl 1 0 1],.row false 1 [[int 3]]])
  (H1:=hx Heap.empty [.row true 2 [[int 5,int 2]],.row true 2 [[int 9,int 1]],.box false [.sl 0 0 1,.sl 1 0 1],.row true 1 [[int 3]]]) rfl)
 rw [A_right,A_need,A_places,alive_pages] at k18
 have k11n:=fun K L Q => @KW_of ftG _ _ _ Q _ _ (call_frz (ft:=ftG) (k:=11) (args:=[.agg [.sc (.slice none 0 0),.sc (.slice none 0 0)],.agg [.sc (.slice none 0 0),.sc (.slice none 0 0)]]) (as':=[.agg [encR [],encR []],.agg [encR [],encR []]]) (H:=hx K L) rfl rfl rfl (s11 [] [] [] [] (by simp) (by simp) (hx K L)))
 rw [show sameM [] [] = true by decide] at k11n
 have sl : ∀ H,sliceA H 1 (encB P1) none (some 24) none = some (encB (P1.take 24)):=fun H => by
  show (boundsA (P1.map byteC).length none (some 24) none).bind (fun p => if p.1 = 0 ∨ allSz 1 (P1.map byteC) = true then some (AV.lst (((P1.map byteC).drop p.1).take (p.2 - p.1))) else none) = _
  rw [List.length_map,P1_len,show boundsA 256 none (some 24) none = some (0,24) by decide]
  simp [encB,List.map_take]
 rw [P1_24] at sl
 have i0 : ∀ H,iaddrA H none 1 (encP [P1]) 0 = some (.pim [[encB P1]] 0 0):=fun _ => rfl
 have c0 : ∀ H off n,cellsAt H (.pim [[encB P1]] 0 off) n = if off + n ≤ 1 then some ((([encB P1] : List AV).drop off).take n) else none:=fun _ _ _ => rfl
 have lP : ∀ H,lenV H 0 (encP [P1]) = some (.sc (.int .i64 1),H):=fun _ => rfl
 have ln : ∀ H,lenV H 0 (encB P1) = some (.sc (.int .i64 256),H):=fun H => by
  have:=P1_len
  simp [lenV,lenOfA,encB,this]
 have oP : (encP [P1]).one = true:=rfl
 have cP : (encP [P1]).cells = [encP [P1]]:=rfl
 have fP : ∀ n H,frz (n + 1) H (encP [P1]) = some (encP [P1],H):=fun _ _ => rfl
 simp only [AF,AH,encR,List.map_cons,List.map_nil,runC,encN,numC,int,boolA,Bool.and_self,if_true] at k18 k11n
 simp only [↓vp,vz,Nat.reduceLT,Nat.reduceEqDiff,Nat.reduceLeDiff,Nat.reduceAdd,Nat.reduceSub,Nat.reduceMul,Int.reduceBEq,Int.reduceBNe,Int.reduceLT,Int.reduceLE,Int.reduceEq,reduceIte,reduceCtorEq,da,int,boolA,dr,k18,i0,c0,lP,ln,cP,oP]
 refine o9 (lid:=4) ?_ fun K1 iid q1 q2 q3 => ?_
 ·rfl
 have g2 : K1.get 2 = some (.box false [.sl 0 0 1,.sl 1 0 1]):=q3 2 _ rfl (fun r e => by cases e)
 have g4 : K1.get 4 = some (.box false [encP [P1]]):=q3 4 _ rfl (fun r e => by cases e)
 have g0 : K1.get 0 = some (.row true 2 [[int 5,int 2]]):=q3 0 _ rfl (fun r e => by cases e)
 have g1 : K1.get 1 = some (.row true 2 [[int 9,int 1]]):=q3 1 _ rfl (fun r e => by cases e)
 have y0:=fun L => get_old g0 L
 have y1:=fun L => get_old g1 L
 have y2:=fun L => get_old g2 L
 have y4:=fun L => get_old g4 L
 have yi:=fun L => get_old q1 L
 have q20 : ∀ L,frz 23 (hx K1 L) (.agg [.sl 0 0 1,.sl 1 0 1]) = some (.agg [encR AF,encR AH],hx K1 L):=fun L => frz_st (y0 L) (y1 L) rfl rfl 19
 have q21 : ∀ L,frz 22 (hx K1 L) (.agg [.sl 0 0 1,.sl 1 0 1]) = some (.agg [encR AF,encR AH],hx K1 L):=fun L => frz_st (y0 L) (y1 L) rfl rfl 18
 have k11:=fun L Q => @KW_of ftG _ _ _ Q _ _ (call_frz (ft:=ftG) (k:=11) (args:=[.agg [.sl 0 0 1,.sl 1 0 1],.agg [encR AF,encR AH]]) (as':=[.agg [encR AF,encR AH],.agg [encR AF,encR AH]]) (H:=hx K1 L) rfl (by rw [frzCells_eq,frzL_cons,q20]; rfl) rfl (s11 AF AH AF AH (by simp [AF]) (by simp [AH]) (hx K1 L)))
 have k27':=fun L Q => @KW_of ftG _ _ _ Q _ _ (call_frz (ft:=ftG) (k:=27) (args:=[.agg [.sl 0 0 1,.sl 1 0 1]]) (as':=[.agg [encR AF,encR AH]]) (H:=hx K1 L) rfl (by rw [frzCells_eq,frzL_cons,q20]; rfl) rfl (s27 AF AH (by simp [AF]) (by simp [AH]) (hx K1 L)))
 have k16:=fun L Q => @KW_of ftG _ _ _ Q _ _ (call_frz (ft:=ftG) (k:=16) (args:=[int 3,.agg [.sl 0 0 1,.sl 1 0 1]]) (as':=[int 3,.agg [encR AF,encR AH]]) (H:=hx K1 L) rfl (by rw [frzCells_eq,frzL_cons,show ∀ n H,frz (n + 1) H (int 3) = some (int 3,H) from fun _ _ => rfl,Option.bind_some,frzL_cons,q21]; rfl) rfl (s16 3 AF AH (by simp [AF]) (by simp [AH]) (fun _ => by decide) (hx K1 L)))
 rw [A_right] at k27'
 rw [A_need3] at k16
 rw [show sameM AF AF = true by decide,show sameM AH AH = true by decide] at k11
 have b1 : (((1 : Nat) : Int) == 1) = true:=rfl
 have on : ∀ e,optI e none = some none:=fun _ => rfl
 have o24 : ∀ e,optI e (some (.const (.int .i64 24))) = some (some 24):=fun _ => rfl
 have k26 : ∀ b0 b1 b2 Q,KW ftG (.fn (.func 26) [] []) [encB [70,1,3,0,0,0,0,0,1,0,0,0,5,0,0,0,6,0,0,0,9,0,0,0],.sl (K1.next + 3) 0 24] (hx K1 [b0,b1,b2,.row false 1 (([70,1,3,0,0,0,0,0,1,0,0,0,5,0,0,0,6,0,0,0,9,0,0,0] : List Int).map byteC)]) Q ↔ Q (boolA true) (hx K1 [b0,b1,b2,.row true 1 (([70,1,3,0,0,0,0,0,1,0,0,0,5,0,0,0,6,0,0,0,9,0,0,0] : List Int).map byteC)]):=fun b0 b1 b2 Q => by
  refine KW_of (p26 [70,1,3,0,0,0,0,0,1,0,0,0,5,0,0,0,6,0,0,0,9,0,0,0] ?_)
  have g:=hx_get K1 [b0,b1,b2,.row false 1 (([70,1,3,0,0,0,0,0,1,0,0,0,5,0,0,0,6,0,0,0,9,0,0,0] : List Int).map byteC)] 3
  have h:=hx_set K1 [b0,b1,b2,.row false 1 (([70,1,3,0,0,0,0,0,1,0,0,0,5,0,0,0,6,0,0,0,9,0,0,0] : List Int).map byteC)] (.row true 1 (([70,1,3,0,0,0,0,0,1,0,0,0,5,0,0,0,6,0,0,0,9,0,0,0] : List Int).map byteC)) 3
  rw [frzCells_eq,frzL_cons,show ∀ n H l,frz (n + 1) H (encB l) = some (encB l,H) from fun _ _ _ => rfl,Option.bind_some,frzL_cons]
  simp only []
  rw [row_frz2 (n:=24) g rfl,h]
  rfl
 have k20 : ∀ b0 b1 b2 b3 Q,KW ftG (.fn (.func 20) [] []) [int 3,.sl (K1.next + 4) 0 2] (hx K1 [b0,b1,b2,b3,.row false 1 [[int 4],[int 7]]]) Q ↔ Q (int 7) (hx K1 [b0,b1,b2,b3,.row true 1 [[int 4],[int 7]]]):=fun b0 b1 b2 b3 Q => by
  refine KW_of (p20 3 [4,7] (by simp) ?_)
  have g:=hx_get K1 [b0,b1,b2,b3,.row false 1 [[int 4],[int 7]]] 4
  have h:=hx_set K1 [b0,b1,b2,b3,.row false 1 [[int 4],[int 7]]] (.row true 1 [[int 4],[int 7]]) 4
  rw [frzCells_eq,frzL_cons,show ∀ n H,frz (n + 1) H (int 3) = some (int 3,H) from fun _ _ => rfl,Option.bind_some,frzL_cons]
  simp only []
  rw [row_frz2 (n:=2) g rfl,h]
  rfl
 simp only [byteC,List.map_cons,List.map_nil,int,boolA] at k26 k20 k11 k27' k16
 have k9':=fun L Q => @k9n (hx K1 L) Q
 simp only [int] at k9'
 rw [← hx_nil K1]
 simp only [↓vp,vz,Nat.reduceLT,Nat.reduceEqDiff,Nat.reduceLeDiff,Nat.reduceAdd,Nat.reduceSub,Nat.reduceMul,Int.reduceBEq,Int.reduceBNe,Int.reduceLT,Int.reduceLE,Int.reduceEq,reduceIte,reduceCtorEq,da,int,boolA,dr,k9',i0,c0,lP,ln,y2,y4,sl,cP,oP,hx_hx,on,o24,k26,k11,k11n,k27',k16,k20,b1]
 simp only [↓vp,vz,Nat.reduceLT,Nat.reduceEqDiff,Nat.reduceLeDiff,Nat.reduceAdd,Nat.reduceSub,Nat.reduceMul,Int.reduceBEq,Int.reduceBNe,Int.reduceLT,Int.reduceLE,Int.reduceEq,reduceIte,reduceCtorEq,da,int,boolA,rt]
theorem s8 (H : Heap) : callL ftG8 (.fn (.func 8) [] []) [] H = some (boolA true,H):=call_p (as':=[]) rfl rfl (by simp) (AW_sub ftG8_sub c8_body)
end Go.VI
namespace Go.Proofs
open Go.Shelf
def Tryz.sortRun_ren : Go.Shelf.Ren:=⟨fun | 6 => 99 | 15 => 124 | 14 => 123 | 28 => 139 | 29 => 140 | 20 => 131 | 21 => 132 | 22 => 133 | 23 => 134 | 24 => 135 | 25 => 136 | 26 => 137 | 27 => 138 | 46 => 153 | 47 => 154 | 48 => 155 | 49 => 156 | 50 => 157 | 57 => 162 | n => n,fun | 22 => 25 | 24 => 60 | 25 => 143 | 3 => 3 | 39 => 151 | 0 => 0 | 53 => 176 | 55 => 146 | 4 => 4 | 46 => 182 | 45 => 181 | 50 => 186 | 5 => 5 | 9 => 9 | 66 => 198 | 70 => 202 | 76 => 208 | 77 => 209 | n => n,fun | n => n⟩
theorem Tryz.sortRun : Go.Proofs.SlLaysF0.n6 Tryz.prog Tryz.sortRun_ren:={
 mixed:=by kernel_rfl
 f6:=⟨Tryz.f99.name,by decide,Tryz.func99.trans (congrArg some (by kernel_rfl))⟩
 f14:=⟨Tryz.f123.name,by decide,Tryz.func123.trans (congrArg some (by kernel_rfl))⟩
 f15:=Tryz.func124.trans (congrArg some (by kernel_rfl))
 f20:=⟨Tryz.f131.name,by decide,Tryz.func131.trans (congrArg some (by kernel_rfl))⟩
 f21:=⟨Tryz.f132.name,by decide,Tryz.func132.trans (congrArg some (by kernel_rfl))⟩
 f22:=⟨Tryz.f133.name,by decide,Tryz.func133.trans (congrArg some (by kernel_rfl))⟩
 f23:=⟨Tryz.f134.name,by decide,Tryz.func134.trans (congrArg some (by kernel_rfl))⟩
 f24:=⟨Tryz.f135.name,by decide,Tryz.func135.trans (congrArg some (by kernel_rfl))⟩
 f25:=⟨Tryz.f136.name,by decide,Tryz.func136.trans (congrArg some (by kernel_rfl))⟩
 f26:=⟨Tryz.f137.name,by decide,Tryz.func137.trans (congrArg some (by kernel_rfl))⟩
 f27:=⟨Tryz.f138.name,by decide,Tryz.func138.trans (congrArg some (by kernel_rfl))⟩
 f28:=Tryz.func139.trans (congrArg some (by kernel_rfl))
 f29:=Tryz.func140.trans (congrArg some (by kernel_rfl))
 f46:=⟨Tryz.f153.name,by decide,Tryz.func153.trans (congrArg some (by kernel_rfl))⟩
 f47:=Tryz.func154.trans (congrArg some (by kernel_rfl))
 f48:=Tryz.func155.trans (congrArg some (by kernel_rfl))
 f49:=⟨Tryz.f156.name,by decide,Tryz.func156.trans (congrArg some (by kernel_rfl))⟩
 f50:=⟨Tryz.f157.name,by decide,Tryz.func157.trans (congrArg some (by kernel_rfl))⟩
 f57:=⟨Tryz.f162.name,by decide,Tryz.func162.trans (congrArg some (by kernel_rfl))⟩
 t0:=Tryz.underlying0
 a0:=Tryz.isAgg0
 z0:=Tryz.sizeOf0
 v0:=Tryz.zeroValue0
 t3:=Tryz.underlying3
 a3:=Tryz.isAgg3
 z3:=Tryz.sizeOf3
 v3:=Tryz.zeroValue3
 t4:=Tryz.underlying4
 a4:=Tryz.isAgg4
 z4:=Tryz.sizeOf4
 v4:=Tryz.zeroValue4
 t5:=Tryz.underlying5
 a5:=Tryz.isAgg5
 z5:=Tryz.sizeOf5
 v5:=Tryz.zeroValue5
 t9:=Tryz.underlying9
 a9:=Tryz.isAgg9
 z9:=Tryz.sizeOf9
 v9:=Tryz.zeroValue9
 t22:=Tryz.underlying25
 a22:=Tryz.isAgg25
 z22:=Tryz.sizeOf25
 v22:=Tryz.zeroValue25
 t25:=Tryz.underlying143
 a25:=Tryz.isAgg143
 z25:=Tryz.sizeOf143
 v25:=Tryz.zeroValue143
 t39:=Tryz.underlying151
 a39:=Tryz.isAgg151
 z39:=Tryz.sizeOf151
 v39:=Tryz.zeroValue151
 t45:=Tryz.underlying181
 a45:=Tryz.isAgg181
 z45:=Tryz.sizeOf181
 v45:=Tryz.zeroValue181
 t46:=Tryz.underlying182
 a46:=Tryz.isAgg182
 z46:=Tryz.sizeOf182
 v46:=Tryz.zeroValue182
 t50:=Tryz.underlying186
 a50:=Tryz.isAgg186
 z50:=Tryz.sizeOf186
 v50:=Tryz.zeroValue186
 t53:=Tryz.underlying176
 a53:=Tryz.isAgg176
 z53:=Tryz.sizeOf176
 v53:=Tryz.zeroValue176
 t55:=Tryz.underlying146
 a55:=Tryz.isAgg146
 z55:=Tryz.sizeOf146
 v55:=Tryz.zeroValue146
 t66:=Tryz.underlying198
 a66:=Tryz.isAgg198
 z66:=Tryz.sizeOf198
 v66:=Tryz.zeroValue198
 t70:=Tryz.underlying202
 a70:=Tryz.isAgg202
 z70:=Tryz.sizeOf202
 v70:=Tryz.zeroValue202
 t76:=Tryz.underlying208
 a76:=Tryz.isAgg208
 z76:=Tryz.sizeOf208
 v76:=Tryz.zeroValue208
 t77:=Tryz.underlying209
 a77:=Tryz.isAgg209
 z77:=Tryz.sizeOf209
 v77:=Tryz.zeroValue209 }
end Go.Proofs
namespace Go.VI
open Go.Sort Go.Proofs
def srE (x : SR) : List Value:=[.int .i64 x.1.1,.int .i64 x.1.2]
theorem srE_len (x : SR) : (srE x).length = 2:=rfl
theorem srE_one (x : SR) : ∀ v ∈ srE x,v.oneCell' = true:=by
 intro v hv
 simp [srE] at hv
 rcases hv with rfl | rfl <;> rfl
theorem srE_get (x : SR) (j : Nat) (h : j < 2) : (srE x)[j]! = (srE x).getD j undef:=by
 match j,h with
 | 0,_ => rfl
 | 1,_ => rfl
theorem srC_get (x : SR) (j : Nat) (c : AV) (h : (srC x)[j]? = some c) : j < 2 ∧ c = .sc ((srE x).getD j undef) ∧ isSc ((srE x).getD j undef) = true:=by
 match j with
 | 0 => simp [srC] at h; exact ⟨by omega,h.symm,rfl⟩
 | 1 => simp [srC] at h; exact ⟨by omega,h.symm,rfl⟩
 | j + 2 => simp [srC] at h
theorem putCells_get {β : Type} [Inhabited β] (enc : β → Value) (off : Nat) (d : Array β) (c : Array Value) (k : Nat) (hk : k < c.size) : (putCells enc off d c).getD k undef = if off ≤ k ∧ k < off + d.size then enc d[k - off]! else c.getD k undef:=by
 unfold putCells
 rw [Array.getD_eq_getD_getElem?,Array.getElem?_mapIdx,Array.getElem?_eq_getElem hk,Option.map_some,Option.getD_some,Array.getD_eq_getD_getElem?,Array.getElem?_eq_getElem hk,Option.getD_some]
theorem heap_map_ne (w : World) (blk : Nat) (f : Array Value → Array Value) (b : Nat) (h : b ≠ blk) : (mapBlock w blk f).heap[b]? = w.heap[b]?:=by
 simp only [mapBlock,Array.getElem?_modify]
 rw [if_neg (Ne.symm h)]
theorem heap_map_at (w : World) (blk : Nat) (f : Array Value → Array Value) (c : Array Value) (t : TypeId) (fr : Nat × Nat) (h : w.heap[blk]? = some (.cells c t fr)) : (mapBlock w blk f).heap[blk]? = some (.cells (f c) t fr):=by
 simp only [mapBlock,Array.getElem?_modify]
 rw [if_true,h]
 rfl
section
variable {P : Program}
theorem sorted_inv {m : Mp} {F : Fz} {H : Heap} {w : World} (hI : Inv P m F H w) {id : Nat} {mb : MB} (hm : m id = some mb) {l l' : List SR} (hg : H.get id = some (.row false 2 (l.map srC))) (hl : l'.length = l.length) (n : Nat) (os : Array Obj) :
  Inv P m F (H.set id (.row false 2 (l'.map srC))) (sortWorldK srE 2 w mb.cb mb.base n l'.toArray os) ∧ Ext m F w m F (sortWorldK srE 2 w mb.cb mb.base n l'.toArray os):=by
 obtain ⟨vs,hcb,hsz,hcn,hfit,hrl,hrc,hF,_,hfull⟩:=hI.blk id mb _ hm hg
 obtain ⟨⟨rsF,f1,f2,f3⟩,hum⟩:=hfull rfl
 have hF:=hF rfl
 have hblk:=hcb.lt
 rw [List.length_map] at hcn f2
 obtain ⟨t,fr,hb0,hfr⟩:=hcb
 let fl:=flatK srE 2 l'.toArray
 have hfls : fl.size = l.length * 2:=by simp [fl,hl]
 let vs':=putCells _root_.id mb.base fl vs
 have hvs' : vs'.size = vs.size:=by simp [vs',putCells]
 generalize hw' : sortWorldK srE 2 w mb.cb mb.base n l'.toArray os = w'
 have hne : ∀ b,b < w.heap.size → b ≠ mb.cb → w'.heap[b]? = w.heap[b]?:=fun b h1 h2 => by
  rw [← hw']
  unfold sortWorldK putRowK putRow
  rw [heap_grow_old _ _ (by simp [mapBlock]; exact h1),heap_map_ne _ _ _ _ h2]
  rfl
 have hat : w'.heap[mb.cb]? = some (.cells vs' t fr):=by
  rw [← hw']
  unfold sortWorldK putRowK putRow
  rw [heap_grow_old _ _ (by simp [mapBlock]; exact hblk)]
  exact heap_map_at (Go.Sort.ahead w n) _ _ _ _ _ hb0
 have hsize : w.heap.size ≤ w'.heap.size:=by
  rw [← hw']
  exact size_sortWorldK_c srE 2 w mb.cb mb.base n l'.toArray os
 have hcb' : CB w' mb.cb vs':=⟨t,fr,hat,by rw [hvs']; exact hfr⟩
 have hl2 : l.length * 2 ≤ mb.cn * 2:=Nat.mul_le_mul_right _ hcn
 have hcell : ∀ (i : Nat) (x : SR) (j : Nat) (c : AV),l'[i]? = some x → (srC x)[j]? = some c → c.one = true ∧ VF F c (vs'.getD (mb.base + i * 2 + j) undef):=fun i x j c hx hc => by
  obtain ⟨hj,rfl,hs⟩:=srC_get x j c hc
  have hi:=(List.getElem?_eq_some_iff.1 hx).1
  refine ⟨rfl,?_⟩
  have hk : mb.base + i * 2 + j < vs.size:=by omega
  have : vs'.getD (mb.base + i * 2 + j) undef = (srE x).getD j undef:=by
   show (putCells _root_.id mb.base fl vs).getD _ undef = _
   rw [putCells_get _ _ _ _ _ hk,if_pos (by omega),show mb.base + i * 2 + j - mb.base = i * 2 + j by omega]
   show (flatK srE 2 l'.toArray)[i * 2 + j]! = _
   rw [get_flatK _ _ _ _ (by simp; omega),show (i * 2 + j) / 2 = i by omega,show (i * 2 + j) % 2 = j by omega]
   have : l'.toArray[i]! = x:=by
    rw [getElem!_pos _ i (by simpa using hi)]
    have:=List.getElem?_eq_getElem hi
    rw [hx] at this
    simpa using (Option.some.inj this).symm
   rw [this,srE_get _ _ hj]
  rw [this]
  exact .sc hs
 have hwell : w'.tape = w.tape ∧ w'.os = w.os ∧ w'.output = w.output:=by
  rw [← hw']
  exact ⟨rfl,rfl,rfl⟩
 refine ⟨hI.next (MLe.refl m) (FLe.refl F) (fun b o v hv => ?_) (fun j mj hj => ?_) (fun j mj B hj hB => ?_) (fun i j mi mj hi hj li lj e => hI.inj i j mi mj hi hj (live_set li (.inl (live_of hg (by simp)))) (live_set lj (.inl (live_of hg (by simp)))) e),?_⟩
 ·have : b ≠ mb.cb:=fun e => by rw [e,hF o] at hv; cases hv
  rw [cell_of_heap (hne b (hI.fz_lt hv) this)]
  exact hI.fz b o v hv
 ·have:=hI.lt j mj hj
  simp only [Heap.next_set]
  exact ⟨this.1,by omega⟩
 ·by_cases e : j = id
  ·subst e
   rw [Heap.get_set_self _ (hI.lt _ _ hm).1] at hB
   cases hB
   rw [hm] at hj
   cases hj
   refine .inr ⟨vs',hcb',hsz,by simpa [hl] using hcn,by rw [hvs']; exact hfit,fun i r hr => ?_,fun i r j c hr hc => ?_,fun _ => hF,by simp,fun _ => ⟨⟨l'.map srC ++ rsF.drop l.length,?_,?_,?_,?_⟩,fun _ => ?_⟩⟩
   ·rw [List.getElem?_map,Option.map_eq_some_iff] at hr
    obtain ⟨x,_,rfl⟩:=hr
    rfl
   ·rw [List.getElem?_map,Option.map_eq_some_iff] at hr
    obtain ⟨x,hx,rfl⟩:=hr
    exact hcell i x j c hx hc
   ·simp; omega
   ·rw [List.take_left]
   ·intro i r hr
    rw [hsz]
    rcases Nat.lt_or_ge i l.length with h1 | h1
    ·rw [List.getElem?_append_left (by simpa [hl] using h1),List.getElem?_map,Option.map_eq_some_iff] at hr
     obtain ⟨x,_,rfl⟩:=hr
     rfl
    ·rw [List.getElem?_append_right (by simpa [hl] using h1),List.getElem?_drop] at hr
     rw [← hsz]
     exact f3.len _ r hr
   ·intro i r j c hr hc
    rw [hsz]
    rcases Nat.lt_or_ge i l.length with h1 | h1
    ·rw [List.getElem?_append_left (by simpa [hl] using h1),List.getElem?_map,Option.map_eq_some_iff] at hr
     obtain ⟨x,hx,rfl⟩:=hr
     exact hcell i x j c hx hc
    ·rw [List.getElem?_append_right (by simpa [hl] using h1),List.getElem?_drop] at hr
     rw [List.length_map,hl,show l.length + (i - l.length) = i by omega] at hr
     have:=f3.cell _ r j c hr hc
     rw [hsz] at this
     have hi : i < mb.cn:=by rw [← f1]; exact (List.getElem?_eq_some_iff.1 hr).1
     have hj : j < 2:=by rw [← hsz,← f3.len i r hr]; exact (List.getElem?_eq_some_iff.1 hc).1
     have e : vs'.getD (mb.base + i * 2 + j) undef = vs.getD (mb.base + i * 2 + j) undef:=by
      show (putCells _ mb.base fl vs).getD _ undef = _
      rw [putCells_get _ _ _ _ _ (by omega),if_neg (by omega)]
     rw [e]
     exact this
   ·obtain ⟨us,t',hu⟩:=hum (by simp)
    rw [hb0] at hu
    injection hu with hu
    injection hu with h1 h2 h3
    exact ⟨vs',t,by rw [hat,h3]⟩
  ·rw [Heap.get_set_ne _ e] at hB
   by_cases hd : B = .dead
   ·subst hd
    exact .inr trivial
   ·exact .inl ⟨hj,hB,hne _ (hI.lt _ _ hj).2 (cb_other hI hm hj (live_of hg (by simp)) (live_of hB hd) e),fun _ _ hv => hv⟩
 ·exact ⟨MLe.refl m,FLe.refl F,hsize,hwell.1,hwell.2.1,hwell.2.2,fun b h1 h2 => hne b h1 (fun e => h2 id mb hm e.symm),fun _ _ h => .inl h,fun _ _ _ h => .inl h⟩
theorem sorted_holds {m : Mp} {F : Fz} {H : Heap} {w : World} (hI : Inv P m F H w) {id : Nat} {mb : MB} (hm : m id = some mb) {l : List SR} (hg : H.get id = some (.row false 2 (l.map srC))) : HoldsK srE 2 w mb.cb mb.base l.toArray:=by
 obtain ⟨vs,hcb,hsz,hcn,hfit,hrl,hrc,_⟩:=hI.blk id mb _ hm hg
 rw [List.length_map] at hcn
 have hl2 : l.length * 2 ≤ mb.cn * 2:=Nat.mul_le_mul_right _ hcn
 intro j hj
 have hj' : j < l.length * 2:=by simpa using hj
 have hlt : mb.base + j < vs.size:=by omega
 refine ⟨?_,hcb.frozen _ hlt⟩
 rw [hcb.cell _ hlt,get_flatK _ _ _ _ (by simpa using hj')]
 have hi : j / 2 < l.length:=by omega
 have hx : (l.map srC)[j / 2]? = some (srC l[j / 2]):=by rw [List.getElem?_map,List.getElem?_eq_getElem hi]; rfl
 have e1 : l.toArray[j / 2]! = l[j / 2]:=by
  rw [getElem!_pos _ _ (by simpa using hi)]
  simp
 rw [e1]
 have hc : (srC l[j / 2])[j % 2]? = some (.sc ((srE l[j / 2]).getD (j % 2) undef)):=by
  have : j % 2 = 0 ∨ j % 2 = 1:=by omega
  rcases this with h | h <;> rw [h] <;> rfl
 obtain ⟨_,h2⟩:=hrc _ _ _ _ hx hc
 rw [show mb.base + j / 2 * 2 + j % 2 = mb.base + j by omega] at h2
 have h3 : vs.getD (mb.base + j) undef = (srE l[j / 2]).getD (j % 2) undef:=by
  generalize vs.getD (mb.base + j) undef = a at h2 ⊢
  generalize (srE l[j / 2]).getD (j % 2) undef = b at h2 ⊢
  exact (vr_sc (m:=m) (.fz h2)).1
 rw [h3,srE_get _ _ (by omega)]
 rfl
theorem sortP_ok {ρ : Go.Shelf.Ren} (L : SlLaysF0.n6 P ρ) {k g : FuncId} (hk : ρ.f 6 = k) (aE : ∀ w,(isAgg (ρ.t 24)).run P w = .ok true w) (zE : ∀ w,(Go.sizeOf (ρ.t 24)).run P w = .ok 2 w)
  (ek : ∀ args w,(callFunc k args).run P w = .ok (.enter k args) w) (eg : ∀ args w,(callFunc g args).run P w = .ok (.enter g args) w)
  (hcl : ∀ (x y : SR) (W : World),Calls P g #[.agg (srE x).toArray,.agg (srE y).toArray] W fun e w' => e = .returned (.int .i64 (srCf x y)) ∧ ∃ q os',w' = grow (W.drewN q) os')
  {p : List AV → Option AV} (hp : PPrimOk P k p) (h0 : p [.lst [],.fn (.func g) [] []] = some (.tup [])) : PrimOk P k (sortP g):=by
 intro args H H' r h m F w vs hI hv
 have hfn : ∀ {n : Nat} {a : AV},args = [a,.fn (.func n) [] []] → ∃ v,vs = #[v,.func (.func n) #[] #[]] ∧ VR m F a v:=by
  intro n a e
  subst e
  have hl:=hv.len
  obtain ⟨vf,vc,h1,h2,h3,_⟩:=vr_fn (hv.val 1 (.fn (.func n) [] []) rfl)
  obtain rfl : vf = #[]:=Array.eq_empty_of_size_eq_zero h2
  obtain rfl : vc = #[]:=Array.eq_empty_of_size_eq_zero h3
  refine ⟨vs.getD 0 undef,?_,hv.val 0 a rfl⟩
  rw [← h1]
  refine Array.ext (by simpa using hl) fun i h1 h2 => ?_
  simp at hl
  match i with
  | 0 => simp [Array.getD_eq_getD_getElem?,h1]
  | 1 => simp [Array.getD_eq_getD_getElem?,h1]
  | i + 2 => omega
 have emp : ∀ {a : AV},args = [a,.fn (.func g) [] []] → (∀ v,VR m F a v → ∃ A c,v = .slice A 0 c) → r = .tup [] → H' = H →
   ((callFunc k vs).run P w = .ok (.enter k vs) w ∧ Calls P k vs w (CallPost P m F H w r H')) ∨ (∃ u w',(callFunc k vs).run P w = .ok (.value u) w' ∧ CallPost P m F H w r H' (.returned u) w'):=by
  intro a e ha hr hH
  subst hr hH
  obtain ⟨v,rfl,hva⟩:=hfn e
  obtain ⟨A,c,rfl⟩:=ha v hva
  refine hp _ _ h0 m F H' w _ hI rfl fun i c' hc => ?_
  match i,hc with
  | 0,hc => cases hc; exact vf_nolst F A c
  | 1,hc => cases hc; exact .fn rfl rfl (by simp) (by simp)
 unfold sortP at h
 split at h
 ·rename_i id len n
  split at h
  rotate_left
  ·cases h
  rename_i hn
  subst hn
  split at h
  rotate_left
  ·cases h
  rename_i rows hg
  split at h
  rotate_left
  ·cases h
  rename_i hlen
  obtain ⟨rfl,hle⟩:=hlen
  rw [Option.map_eq_some_iff] at h
  obtain ⟨l,hl,h⟩:=h
  cases h
  obtain rfl:=srsOf_some hl
  obtain ⟨v,rfl,hva⟩:=hfn rfl
  obtain ⟨mb,cap,hm,rfl,hc1,hc2⟩:=vr_sl hva
  have hb:=(hI.lt id mb hm).2
  have hsz : l.toArray.size < 4611686018427387904:=by simp at hle ⊢; omega
  have hcon:=AnyQ.slices_SortFunc_eq L 2 aE zE srE srE_len srE_one srCf srSWO n #[] mb.cb mb.base cap l.toArray w eg (fun m os dk hs x y => by simpa using hcl x y _) (sorted_holds hI hm hg) hb hsz
  rw [hk] at hcon
  refine .inl ⟨ek _ _,?_⟩
  have e1 : (.slice (some ⟨mb.cb,mb.base + 0 * mb.sz,none⟩) (l.map srC).length cap : Value) = .slice (some ⟨mb.cb,mb.base,none⟩) l.toArray.size cap:=by simp
  rw [e1]
  refine hcon.mono fun en w' ⟨he,n,os,hw⟩ => ?_
  have e2 : pdq (ltOf srCf) l.toArray 0 l.toArray.size (Lib.bitLen l.toArray.size) true true = (sortL l).toArray:=by
   unfold sortL
   simp
   rfl
  rw [e2] at hw
  subst hw
  obtain ⟨q1,q2⟩:=sorted_inv hI hm hg (sortL_len l) n os
  exact ⟨_,m,F,he,.fz (.tup (vs:=#[]) rfl (by simp)),q1,q2,⟨fun _ _ h => .inl h,by simp⟩⟩
 ·rename_i n
  split at h
  ·rename_i hn
   subst hn
   cases h
   exact emp rfl (fun v hv => ⟨none,0,(vr_sc hv).1⟩) rfl rfl
  ·cases h
 ·rename_i n
  split at h
  ·rename_i hn
   subst hn
   cases h
   exact emp rfl (fun v hv => by obtain ⟨A,h⟩:=vr_emp hv; exact ⟨A,0,h⟩) rfl rfl
  ·cases h
 ·cases h
end
end Go.VI
namespace Go.VI
def frzW (W : World) : Fz:=fun b o => W.cell? ⟨b,o,none⟩
def CVF (F : Fz) (xs : List AV) (cs : List Value) : Prop:=xs.length = cs.length ∧ ∀ i c,xs[i]? = some c → c.one = true ∧ VF F c (cs.getD i undef)
def RD (P : Program) (W : World) (t : TypeId) (E : List AV → Prop) : Prop :=
 ∀ (H : Type) (enc : TypeId × Value → H) (base : Nat) (spare : Nat → Bool) (held : Bool) (fuel : Nat) (cs : List Value) (x : DataW H × List MemPlace),
  DataW.trod enc P W base spare held fuel t cs = some x → (∀ n ∈ x.1.weights P t,n ≤ reachBytes) → ∃ xs,E xs ∧ CVF (frzW W) xs cs
theorem CVF.one {F : Fz} {a : AV} {v : Value} (h1 : a.one = true) (h : VF F a v) : CVF F [a] [v]:=⟨rfl,fun i c hc => by
 cases i with
 | zero => cases hc; exact ⟨h1,h⟩
 | succ i => simp at hc⟩
theorem CVF.cons {F : Fz} {a : AV} {v : Value} {l : List AV} {vs : List Value} (h : CVF F [a] [v]) (ht : CVF F l vs) : CVF F (a :: l) (v :: vs):=⟨by simp [ht.1],fun i c hc => by
 cases i with
 | zero => exact h.2 0 c hc
 | succ i => exact ht.2 i c hc⟩
theorem rd_int {P : Program} {W : World} {t : TypeId} {k : IntKind} (ht : P.underlying t = some (.int k)) : RD P W t fun xs => ∃ n,xs = [.sc (.int k n)] ∧ (Lit.int k n).wf = true:=fun H enc base spare held fuel cs x h _ => by
 obtain ⟨n,rfl,_,hw⟩:=DataW.trod_int ht h
 exact ⟨_,⟨n,rfl,hw⟩,.one rfl (.sc rfl)⟩
theorem cell_flat {W : World} {a : Addr} {v : Value} (h : W.cell? a = some v) : a.spot = none:=by
 cases hs : a.spot with
 | none => rfl
 | some s =>
  simp only [World.cell?] at h
  split at h
  ·simp [hs] at h
  ·cases h
theorem add_flat (b o i : Nat) : (Addr.mk b o none).add i = ⟨b,o + i,none⟩:=by
 unfold Addr.add
 split
 ·rename_i h; subst h; rfl
 ·rfl
theorem weights_all {H : Type} {P : Program} {e : TypeId} : ∀ {l : List (DataW H)} {d : DataW H},d ∈ l → ∀ n ∈ d.weights P e,n ∈ DataW.weightsAll P e l
 | x :: l,d,hd,n,hn => by
  simp only [DataW.weightsAll,List.mem_append]
  rcases List.mem_cons.1 hd with rfl | hd
  ·exact .inl hn
  ·exact .inr (weights_all hd n hn)
theorem rd_slice {P : Program} {W : World} {t e : TypeId} {E : List AV → Prop} {sz B : Nat} (ht : P.underlying t = some (.slice e)) (hc : P.cellsOf e = sz) (h0 : 0 < sz) (hB : P.bytesOf e = B) (he : RD P W e E) :
  RD P W t fun xs => ∃ rows,xs = [.lst rows] ∧ (∀ r ∈ rows,E r ∧ r.length = sz) ∧ rows.length * B ≤ reachBytes:=fun H enc base spare held fuel cs x h hw => by
 rcases DataW.trod_slice ht h with ⟨rfl,rfl⟩ | ⟨a,len,cap,elems,rest,n,rfl,rfl,rfl,hb,hl,hm,hlen,hel,_,_⟩
 ·exact ⟨_,⟨[],rfl,by simp,by simp⟩,.one rfl (.lst (sz:=0) (b:=0) (o:=0) (fun _ _ => undef) (Nat.le_refl _) (fun h => absurd rfl h) (by simp) (by simp) (by simp) (by simp))⟩
 ·rw [hc] at hel
  have hw1 : (len + rest.length) * B ≤ reachBytes:=by
   have:=hw ((elems.length + rest.length) * P.bytesOf e) (by simp [DataW.weights,ht])
   rwa [hB,hlen] at this
  have each : ∀ i : Nat,∃ r : List AV,i < len → ∃ cs,W.cells? base (a.add (i * sz)) sz = some cs ∧ E r ∧ CVF (frzW W) r cs:=fun i => by
   by_cases hi : i < len
   ·have hy:=hel i hi
    have hi' : i < elems.length:=by omega
    rw [List.getElem?_eq_getElem hi',Option.bind_eq_some_iff] at hy
    obtain ⟨cs,hcs,hy⟩:=hy
    obtain ⟨r,hr,hv⟩:=he H enc base spare held n cs _ hy fun k hk => hw k (by
     simp only [DataW.weights,ht,List.mem_cons,List.mem_append]
     exact .inr (.inl (weights_all (List.mem_map.2 ⟨elems[i],List.getElem_mem hi',rfl⟩) k hk)))
    exact ⟨r,fun _ => ⟨cs,hcs,hr,hv⟩⟩
   ·exact ⟨[],fun h => absurd h hi⟩
  obtain ⟨f,hf⟩:=Classical.skolem.1 each
  have hrows : ∀ i r,((List.range len).map f)[i]? = some r → i < len ∧ r = f i:=fun i r hr => by
   rw [List.getElem?_map,Option.map_eq_some_iff] at hr
   obtain ⟨j,hj,rfl⟩:=hr
   obtain ⟨h1,h2⟩:=List.getElem?_eq_some_iff.1 hj
   rw [List.getElem_range] at h2
   rw [List.length_range] at h1
   exact ⟨h1,by rw [h2]⟩
  have hlr : ∀ i,i < len → (f i).length = sz:=fun i hi => by
   obtain ⟨cs,h1,_,h2⟩:=hf i hi
   rw [h2.1,(World.cells?_some h1).2.1]
  have cell : ∀ i j,i < len → j < sz → ∃ cs,W.cells? base (a.add (i * sz)) sz = some cs ∧ W.cell? ((a.add (i * sz)).add j) = cs[j]? ∧ ∃ v,cs[j]? = some v:=fun i j hi hj => by
   obtain ⟨cs,h1,_,_⟩:=hf i hi
   obtain ⟨_,h2,h3⟩:=World.cells?_some h1
   exact ⟨cs,h1,h3 j hj,_,List.getElem?_eq_getElem (by omega)⟩
  have hflat : 0 < len → a = ⟨a.block,a.off,none⟩:=fun h => by
   obtain ⟨cs,_,h1,v,h2⟩:=cell 0 0 h h0
   rw [h2] at h1
   have h3 : (a.add (0 * sz)).add 0 = a:=by rw [Nat.zero_mul]; simp [Addr.add]
   rw [h3] at h1
   have:=cell_flat h1
   cases a
   simp only at this
   subst this
   rfl
  have hF : ∀ i j c,i < len → (f i)[j]? = some c → c.one = true ∧ ∃ v,frzW W a.block (a.off + i * sz + j) = some v ∧ VF (frzW W) c v:=fun i j c hi hc => by
   have hj : j < sz:=by rw [← hlr i hi]; exact (List.getElem?_eq_some_iff.1 hc).1
   obtain ⟨cs,h1,h2,v,h3⟩:=cell i j hi hj
   obtain ⟨cs',h1',_,h4⟩:=hf i hi
   rw [h1] at h1'
   cases h1'
   obtain ⟨h5,h6⟩:=h4.2 j c hc
   refine ⟨h5,v,?_,?_⟩
   ·rw [hflat (by omega),add_flat,add_flat,h3] at h2
    exact h2
   ·have : cs.getD j undef = v:=by rw [List.getD_eq_getElem?_getD,h3]; rfl
    rwa [this] at h6
  refine ⟨_,⟨(List.range len).map f,rfl,fun r hr => ?_,?_⟩,.one rfl ?_⟩
  ·obtain ⟨i,hi,rfl⟩:=List.mem_map.1 hr
   have hi:=List.mem_range.1 hi
   obtain ⟨_,_,h1,_⟩:=hf i hi
   exact ⟨h1,hlr i hi⟩
  ·simp only [List.length_map,List.length_range]
   exact Nat.le_trans (Nat.mul_le_mul_right _ (by omega)) hw1
  ·have hll : ((List.range len).map f).length = len:=by simp
   have:=VF.lst (F:=frzW W) (rows:=(List.range len).map f) (A:=some a) (cap:=cap) (sz:=sz) (b:=a.block) (o:=a.off) (fun i j => (frzW W a.block (a.off + i * sz + j)).getD undef)
    (by simpa using hl) (fun h => by rw [← hflat (by
     cases len with
     | zero => simp at h
     | succ => omega)]) (fun i r hr => by obtain ⟨h1,rfl⟩:=hrows i r hr; exact hlr i h1)
    (fun i r j c hr hc => by obtain ⟨h1,rfl⟩:=hrows i r hr; exact (hF i j c h1 hc).1)
    (fun i r j c hr hc => by
     obtain ⟨h1,rfl⟩:=hrows i r hr
     obtain ⟨_,v,h2,_⟩:=hF i j c h1 hc
     rw [h2]; rfl)
    (fun i r j c hr hc => by
     obtain ⟨h1,rfl⟩:=hrows i r hr
     obtain ⟨_,v,h2,h3⟩:=hF i j c h1 hc
     rw [h2]; exact h3)
   rwa [hll] at this
def SE : List (List AV → Prop) → List AV → Prop
 | [],xs => xs = []
 | E :: Es,xs => ∃ a b,xs = a ++ b ∧ E a ∧ SE Es b
def consec (P : Program) : List Field → Nat → Nat → Bool
 | [],off,en => off == en
 | f :: fs,off,en => f.offset == off && consec P fs (off + P.cellsOf f.type) en
theorem consec_le {P : Program} : ∀ {fs : List Field} {off en : Nat},consec P fs off en = true → off ≤ en
 | [],off,en,h => by simp [consec] at h; omega
 | f :: fs,off,en,h => by
  simp only [consec,Bool.and_eq_true] at h
  have:=consec_le h.2
  omega
def RDs (P : Program) (W : World) : List Field → List (List AV → Prop) → Prop
 | [],[] => True
 | f :: fs,E :: Es => RD P W f.type E ∧ RDs P W fs Es
 | _,_ => False
theorem rd_fields {P : Program} {W : World} {H : Type} {enc : TypeId × Value → H} {base : Nat} {spare : Nat → Bool} {held : Bool} {n : Nat} {cs : List Value} : ∀ (fs : List Field) (Es : List (List AV → Prop)) (off : Nat) (xs : List (DataW H × List MemPlace)),
  RDs P W fs Es → consec P fs off cs.length = true → xs.length = fs.length → (∀ (i : Nat) (f : Field),fs[i]? = some f → DataW.trod enc P W base spare held n f.type ((cs.drop f.offset).take (P.cellsOf f.type)) = xs[i]?) →
  (∀ k ∈ DataW.weightsEach P (fs.map (·.type)) (xs.map (·.1)),k ≤ reachBytes) → ∃ xs,SE Es xs ∧ CVF (frzW W) xs (cs.drop off)
 | [],[],off,xs,_,hc,_,_,_ => by
  simp only [consec,beq_iff_eq] at hc
  refine ⟨[],rfl,by simp [hc],fun i c h => by simp at h⟩
 | [],_ :: _,_,_,h,_,_,_,_ => h.elim
 | _ :: _,[],_,_,h,_,_,_,_ => h.elim
 | f :: fs,E :: Es,off,[],_,_,hl,_,_ => by simp at hl
 | f :: fs,E :: Es,off,x :: xs,hr,hc,hl,ht,hw => by
  simp only [consec,Bool.and_eq_true,beq_iff_eq] at hc
  obtain ⟨ho,hc⟩:=hc
  have hle:=consec_le hc
  simp only [List.map_cons,DataW.weightsEach,List.mem_append] at hw
  have h0:=ht 0 f rfl
  rw [ho] at h0
  obtain ⟨a,ha,hva⟩:=hr.1 H enc base spare held n _ x h0 fun k hk => hw k (.inl hk)
  obtain ⟨b,hb,hvb⟩:=rd_fields fs Es (off + P.cellsOf f.type) xs hr.2 hc (by simpa using hl) (fun i g hg => ht (i + 1) g hg) fun k hk => hw k (.inr hk)
  have hla : a.length = P.cellsOf f.type:=by
   rw [hva.1]
   simp
   omega
  refine ⟨a ++ b,⟨a,b,rfl,ha,hb⟩,?_,fun i c h => ?_⟩
  ·rw [List.length_append,hvb.1,hla]
   simp
   omega
  ·by_cases hi : i < a.length
   ·rw [List.getElem?_append_left hi] at h
    obtain ⟨h1,h2⟩:=hva.2 i c h
    refine ⟨h1,?_⟩
    have : ((cs.drop off).take (P.cellsOf f.type)).getD i undef = (cs.drop off).getD i undef:=by
     rw [List.getD_eq_getElem?_getD,List.getD_eq_getElem?_getD,List.getElem?_take_of_lt (by omega)]
    rwa [this] at h2
   ·rw [List.getElem?_append_right (by omega)] at h
    obtain ⟨h1,h2⟩:=hvb.2 _ c h
    refine ⟨h1,?_⟩
    have : (cs.drop (off + P.cellsOf f.type)).getD (i - a.length) undef = (cs.drop off).getD i undef:=by
     rw [List.getD_eq_getElem?_getD,List.getD_eq_getElem?_getD,List.getElem?_drop,List.getElem?_drop]
     congr 2
     omega
    rwa [this] at h2
theorem rd_struct {P : Program} {W : World} {t : TypeId} {fs : Array Field} {Es : List (List AV → Prop)} (ht : P.underlying t = some (.struct fs)) (hc : consec P fs.toList 0 (P.cellsOf t) = true) (hr : RDs P W fs.toList Es) :
  RD P W t (SE Es):=fun H enc base spare held fuel cs x h hw => by
 obtain ⟨xs,n,rfl,rfl,hl,hx,hf⟩:=DataW.trod_struct ht h
 have:=rd_fields (cs:=cs) fs.toList Es 0 xs hr (by rw [hl]; exact hc) (by simpa using hx) (fun i f hi => hf i f (by simpa using hi)) (fun k hk => hw k (by simpa [DataW.weights,ht] using hk))
 simpa using this
end Go.VI
namespace Go.VI
open Go.RowKit
def m0 : Mp:=fun _ => none
theorem inv0 {P : Program} (W : World) : Inv P m0 (frzW W) Heap.empty W :=
 ⟨fun b o v h => h,fun id mb h => absurd h (by simp [m0]),fun id mb B h => absurd h (by simp [m0]),fun id id' mb mb' h => absurd h (by simp [m0])⟩
theorem below_of {F' : Fz} {m' : Mp} {W W' : World} (h : Ext m0 (frzW W) W m' F' W') : Below W.heap.size W W' :=
 ⟨h.os,h.tape,h.out,h.sz,fun k hk => h.blk k hk fun id mb hm => absurd hm (by simp [m0])⟩
theorem law_calls {P : Program} (hP : P.follows .mixedOrders = true) {ft : FT} (hft : FTOk P ft) {k : FuncId} {args : List AV} {vs : Array Value} {W : World} {H' : Heap} (hgo : ∃ p n rs body,ft k = some (.go p n rs body))
  (h : callL ft (.fn (.func k) [] []) args Heap.empty = some (.sc (.bool true),H')) (hv : VRs m0 (frzW W) args vs) :
  Calls P k vs W fun e W' => e = .returned (.bool true) ∧ Below W.heap.size W W':=by
 obtain ⟨n,hn⟩:=callL_some.1 h
 have hn' : callF ft (exec ft n) k args Heap.empty = some (.sc (.bool true),H'):=by simpa [callV] using hn
 refine (callF_sound hP hft n hn' (inv0 W) hv hgo).mono fun e W' he => ?_
 obtain ⟨u,m',F',rfl,hu,_,hx,_⟩:=he
 refine ⟨?_,below_of hx⟩
 cases hu with
 | fz hu => cases hu; rfl
theorem go_ok {P : Program} {k : FuncId} {n : Nat} {rs : List ARes} {body : ACode} (h : compF P k = some (n,rs,body)) (hn : (P.funcs[k]?).all (fun fn => !(fn.name == "runtime.NumGoroutine")) = true) :
  ∃ fn c,P.funcs[k]? = some fn ∧ (fn.name == "runtime.NumGoroutine") = false ∧ fn.body = some c ∧ compC P c = some body ∧ fn.ntmps = n ∧ fn.results.toList.mapM (compRes P) = some rs:=by
 unfold compF at h
 simp only [Option.bind_eq_some_iff,Option.map_eq_some_iff,Prod.mk.injEq] at h
 obtain ⟨fn,h1,b,h2,c,h3,rs',h4,rfl,rfl,rfl⟩:=h
 rw [h1] at hn
 exact ⟨fn,b,h1,by simpa using hn,h2,h3,rfl,h4⟩
end Go.VI
namespace Go.VI
open Go.Sort Go.Proofs Go.Shelf
attribute [local congr] AW_congr OW_congr DW_congr NW_congr VW_congr GW_congr PW_congr KW_congr ite_congr' GV_congr CV_congr
def c123L0 : ACode:=(.block 1 (.seq (.region [⟨(some 21),(.mov (.tmp 2)),none⟩,⟨(some 22),(.mov (.tmp 1)),none⟩,⟨(some 23),(.bin .sub 3 (.tmp 21) (.tmp 22)),none⟩,⟨(some 12),(.mov (.tmp 23)),none⟩] false []) (.seq (.seq (.region [⟨(some 24),(.mov (.tmp 12)),none⟩,⟨(some 25),(.bin .leq 3 (.tmp 24) (.const (.int .i64 12))),none⟩] false []) (.cond (.tmp 25) (.seq (.region [⟨(some 26),(.mov (.tmp 0)),none⟩,⟨(some 27),(.mov (.tmp 1)),none⟩,⟨(some 28),(.mov (.tmp 2)),none⟩,⟨(some 29),(.mov (.tmp 4)),none⟩,⟨(some 30),(.call (.func 131) [(.tmp 26),(.tmp 27),(.tmp 28),(.tmp 29)]),none⟩] false []) .ret) .skip)) (.seq (.seq (.region [⟨(some 31),(.mov (.tmp 3)),none⟩,⟨(some 32),(.bin .eql 3 (.tmp 31) (.const (.int .i64 0))),none⟩] false []) (.cond (.tmp 32) (.seq (.region [⟨(some 33),(.mov (.tmp 0)),none⟩,⟨(some 34),(.mov (.tmp 1)),none⟩,⟨(some 35),(.mov (.tmp 2)),none⟩,⟨(some 36),(.mov (.tmp 4)),none⟩,⟨(some 37),(.call (.func 132) [(.tmp 33),(.tmp 34),(.tmp 35),(.tmp 36)]),none⟩] false []) .ret) .skip)) (.seq (.seq (.region [⟨(some 38),(.mov (.tmp 10)),none⟩,⟨(some 39),(.un .not (.tmp 38)),none⟩] false []) (.cond (.tmp 39) (.seq (.region [⟨(some 40),(.mov (.tmp 0)),none⟩,⟨(some 41),(.mov (.tmp 1)),none⟩,⟨(some 42),(.mov (.tmp 2)),none⟩,⟨(some 43),(.mov (.tmp 4)),none⟩,⟨(some 44),(.call (.func 133) [(.tmp 40),(.tmp 41),(.tmp 42),(.tmp 43)]),none⟩] false []) (.region [⟨(some 45),(.mov (.tmp 3)),none⟩,⟨(some 46),(.bin .sub 3 (.tmp 45) (.const (.int .i64 1))),none⟩,⟨(some 3),(.mov (.tmp 46)),none⟩] false [])) .skip)) (.seq (.region [⟨(some 48),(.mov (.tmp 0)),none⟩,⟨(some 49),(.mov (.tmp 1)),none⟩,⟨(some 50),(.mov (.tmp 2)),none⟩,⟨(some 51),(.mov (.tmp 4)),none⟩,⟨(some 52),(.call (.func 134) [(.tmp 48),(.tmp 49),(.tmp 50),(.tmp 51)]),none⟩,⟨(some 47),(.mov (.tmp 52)),none⟩,⟨(some 53),(.ext (.tmp 47) 0),none⟩,⟨(some 54),(.ext (.tmp 47) 1),none⟩,⟨(some 13),(.mov (.tmp 53)),none⟩,⟨(some 14),(.mov (.tmp 54)),none⟩] false []) (.seq (.seq (.region [⟨(some 55),(.mov (.tmp 14)),none⟩,⟨(some 56),(.bin .eql 181 (.tmp 55) (.const (.int .i64 2))),none⟩] false []) (.cond (.tmp 56) (.seq (.region [⟨(some 57),(.mov (.tmp 0)),none⟩,⟨(some 58),(.mov (.tmp 1)),none⟩,⟨(some 59),(.mov (.tmp 2)),none⟩,⟨(some 60),(.mov (.tmp 4)),none⟩,⟨(some 61),(.call (.func 135) [(.tmp 57),(.tmp 58),(.tmp 59),(.tmp 60)]),none⟩] false []) (.seq (.region [⟨(some 62),(.mov (.tmp 2)),none⟩,⟨(some 63),(.bin .sub 3 (.tmp 62) (.const (.int .i64 1))),none⟩,⟨(some 64),(.mov (.tmp 13)),none⟩,⟨(some 65),(.mov (.tmp 1)),none⟩,⟨(some 66),(.bin .sub 3 (.tmp 64) (.tmp 65)),none⟩,⟨(some 67),(.bin .sub 3 (.tmp 63) (.tmp 66)),none⟩,⟨(some 13),(.mov (.tmp 67)),none⟩] false []) (.region [⟨(some 14),(.mov (.const (.int .i64 1))),none⟩] false []))) .skip)) (.seq (.seq (.region [⟨(some 68),(.mov (.tmp 10)),none⟩,⟨(some 69),(.mov (.tmp 68)),none⟩,⟨(some 70),(.mov (.tmp 11)),(some ((some 69),true))⟩,⟨(some 71),(.pick (.tmp 69) (.tmp 70) (.const (.bool false))),none⟩,⟨(some 72),(.mov (.tmp 71)),none⟩,⟨(some 73),(.mov (.tmp 14)),(some ((some 72),true))⟩,⟨(some 74),(.bin .eql 181 (.tmp 73) (.const (.int .i64 1))),(some ((some 72),true))⟩,⟨(some 75),(.pick (.tmp 72) (.tmp 74) (.const (.bool false))),none⟩] false []) (.cond (.tmp 75) (.seq (.region [⟨(some 76),(.mov (.tmp 0)),none⟩,⟨(some 77),(.mov (.tmp 1)),none⟩,⟨(some 78),(.mov (.tmp 2)),none⟩,⟨(some 79),(.mov (.tmp 4)),none⟩,⟨(some 80),(.call (.func 136) [(.tmp 76),(.tmp 77),(.tmp 78),(.tmp 79)]),none⟩] false []) (.cond (.tmp 80) .ret .skip)) .skip)) (.seq (.seq (.region [⟨(some 81),(.mov (.tmp 1)),none⟩,⟨(some 82),(.bin .gtr 3 (.tmp 81) (.const (.int .i64 0))),none⟩,⟨(some 83),(.mov (.tmp 82)),none⟩,⟨(some 84),(.mov (.tmp 4)),(some ((some 83),true))⟩,⟨(some 85),(.mov (.tmp 0)),(some ((some 83),true))⟩,⟨(some 86),(.mov (.tmp 1)),(some ((some 83),true))⟩,⟨(some 87),(.bin .sub 3 (.tmp 86) (.const (.int .i64 1))),(some ((some 83),true))⟩,⟨(some 88),(.iaddr none 2 (.tmp 85) (.tmp 87)),(some ((some 83),true))⟩,⟨(some 89),(.load true 2 (.tmp 88)),(some ((some 83),true))⟩,⟨(some 90),(.mov (.tmp 0)),(some ((some 83),true))⟩,⟨(some 91),(.mov (.tmp 13)),(some ((some 83),true))⟩,⟨(some 92),(.iaddr none 2 (.tmp 90) (.tmp 91)),(some ((some 83),true))⟩,⟨(some 93),(.load true 2 (.tmp 92)),(some ((some 83),true))⟩,⟨(some 94),(.call (.tmp 84) [(.tmp 89),(.tmp 93)]),(some ((some 83),true))⟩,⟨(some 95),(.bin .lss 3 (.tmp 94) (.const (.int .i64 0))),(some ((some 83),true))⟩,⟨(some 96),(.un .not (.tmp 95)),(some ((some 83),true))⟩,⟨(some 97),(.pick (.tmp 83) (.tmp 96) (.const (.bool false))),none⟩] true []) (.cond (.tmp 97) (.seq (.region [⟨(some 98),(.mov (.tmp 0)),none⟩,⟨(some 99),(.mov (.tmp 1)),none⟩,⟨(some 100),(.mov (.tmp 2)),none⟩,⟨(some 101),(.mov (.tmp 13)),none⟩,⟨(some 102),(.mov (.tmp 4)),none⟩,⟨(some 103),(.call (.func 137) [(.tmp 98),(.tmp 99),(.tmp 100),(.tmp 101),(.tmp 102)]),none⟩,⟨(some 15),(.mov (.tmp 103)),none⟩] false []) (.seq (.region [⟨(some 104),(.mov (.tmp 15)),none⟩,⟨(some 1),(.mov (.tmp 104)),none⟩] false []) (.exit 1))) .skip)) (.seq (.region [⟨(some 106),(.mov (.tmp 0)),none⟩,⟨(some 107),(.mov (.tmp 1)),none⟩,⟨(some 108),(.mov (.tmp 2)),none⟩,⟨(some 109),(.mov (.tmp 13)),none⟩,⟨(some 110),(.mov (.tmp 4)),none⟩,⟨(some 111),(.call (.func 138) [(.tmp 106),(.tmp 107),(.tmp 108),(.tmp 109),(.tmp 110)]),none⟩,⟨(some 105),(.mov (.tmp 111)),none⟩,⟨(some 112),(.ext (.tmp 105) 0),none⟩,⟨(some 113),(.ext (.tmp 105) 1),none⟩,⟨(some 16),(.mov (.tmp 112)),none⟩,⟨(some 17),(.mov (.tmp 113)),none⟩] false []) (.seq (.region [⟨(some 114),(.mov (.tmp 17)),none⟩,⟨(some 11),(.mov (.tmp 114)),none⟩] false []) (.seq (.region [⟨(some 115),(.mov (.tmp 16)),none⟩,⟨(some 116),(.mov (.tmp 1)),none⟩,⟨(some 117),(.bin .sub 3 (.tmp 115) (.tmp 116)),none⟩,⟨(some 118),(.mov (.tmp 2)),none⟩,⟨(some 119),(.mov (.tmp 16)),none⟩,⟨(some 120),(.bin .sub 3 (.tmp 118) (.tmp 119)),none⟩,⟨(some 18),(.mov (.tmp 117)),none⟩,⟨(some 19),(.mov (.tmp 120)),none⟩] false []) (.seq (.region [⟨(some 121),(.mov (.tmp 12)),none⟩,⟨(some 122),(.bin .quo 3 (.tmp 121) (.const (.int .i64 8))),none⟩,⟨(some 20),(.mov (.tmp 122)),none⟩] false []) (.seq (.region [⟨(some 123),(.mov (.tmp 18)),none⟩,⟨(some 124),(.mov (.tmp 19)),none⟩,⟨(some 125),(.bin .lss 3 (.tmp 123) (.tmp 124)),none⟩] false []) (.cond (.tmp 125) (.seq (.region [⟨(some 126),(.mov (.tmp 18)),none⟩,⟨(some 127),(.mov (.tmp 20)),none⟩,⟨(some 128),(.bin .geq 3 (.tmp 126) (.tmp 127)),none⟩,⟨(some 10),(.mov (.tmp 128)),none⟩] false []) (.seq (.region [⟨(some 129),(.mov (.tmp 0)),none⟩,⟨(some 130),(.mov (.tmp 1)),none⟩,⟨(some 131),(.mov (.tmp 16)),none⟩,⟨(some 132),(.mov (.tmp 3)),none⟩,⟨(some 133),(.mov (.tmp 4)),none⟩,⟨(some 134),(.call (.func 123) [(.tmp 129),(.tmp 130),(.tmp 131),(.tmp 132),(.tmp 133)]),none⟩] false []) (.region [⟨(some 135),(.mov (.tmp 16)),none⟩,⟨(some 136),(.bin .add 3 (.tmp 135) (.const (.int .i64 1))),none⟩,⟨(some 1),(.mov (.tmp 136)),none⟩] false []))) (.seq (.region [⟨(some 137),(.mov (.tmp 19)),none⟩,⟨(some 138),(.mov (.tmp 20)),none⟩,⟨(some 139),(.bin .geq 3 (.tmp 137) (.tmp 138)),none⟩,⟨(some 10),(.mov (.tmp 139)),none⟩] false []) (.seq (.region [⟨(some 140),(.mov (.tmp 0)),none⟩,⟨(some 141),(.mov (.tmp 16)),none⟩,⟨(some 142),(.bin .add 3 (.tmp 141) (.const (.int .i64 1))),none⟩,⟨(some 143),(.mov (.tmp 2)),none⟩,⟨(some 144),(.mov (.tmp 3)),none⟩,⟨(some 145),(.mov (.tmp 4)),none⟩,⟨(some 146),(.call (.func 123) [(.tmp 140),(.tmp 142),(.tmp 143),(.tmp 144),(.tmp 145)]),none⟩] false []) (.region [⟨(some 147),(.mov (.tmp 16)),none⟩,⟨(some 2),(.mov (.tmp 147)),none⟩] false []))))))))))))))))))
def c123 : ACode:=(.seq (.region [⟨(some 10),(.mov (.const (.bool true))),none⟩] false []) (.seq (.region [⟨(some 11),(.mov (.const (.bool true))),none⟩] false []) (.block 0 (.loop c123L0))))
def r123 : List ARes:=[]
def c131L0 : ACode:=(.seq (.seq (.region [⟨(some 18),(.mov (.tmp 9)),none⟩,⟨(some 19),(.mov (.tmp 1)),none⟩,⟨(some 20),(.bin .gtr 3 (.tmp 18) (.tmp 19)),none⟩,⟨(some 21),(.mov (.tmp 20)),none⟩,⟨(some 22),(.mov (.tmp 3)),(some ((some 21),true))⟩,⟨(some 23),(.mov (.tmp 0)),(some ((some 21),true))⟩,⟨(some 24),(.mov (.tmp 9)),(some ((some 21),true))⟩,⟨(some 25),(.iaddr none 2 (.tmp 23) (.tmp 24)),(some ((some 21),true))⟩,⟨(some 26),(.load true 2 (.tmp 25)),(some ((some 21),true))⟩,⟨(some 27),(.mov (.tmp 0)),(some ((some 21),true))⟩,⟨(some 28),(.mov (.tmp 9)),(some ((some 21),true))⟩,⟨(some 29),(.bin .sub 3 (.tmp 28) (.const (.int .i64 1))),(some ((some 21),true))⟩,⟨(some 30),(.iaddr none 2 (.tmp 27) (.tmp 29)),(some ((some 21),true))⟩,⟨(some 31),(.load true 2 (.tmp 30)),(some ((some 21),true))⟩,⟨(some 32),(.call (.tmp 22) [(.tmp 26),(.tmp 31)]),(some ((some 21),true))⟩,⟨(some 33),(.bin .lss 3 (.tmp 32) (.const (.int .i64 0))),(some ((some 21),true))⟩,⟨(some 34),(.pick (.tmp 21) (.tmp 33) (.const (.bool false))),none⟩] true []) (.cond (.tmp 34) .skip (.exit 2))) (.seq (.block 3 (.region [⟨(some 37),(.mov (.tmp 0)),none⟩,⟨(some 38),(.mov (.tmp 9)),none⟩,⟨(some 39),(.mov (.tmp 0)),none⟩,⟨(some 40),(.mov (.tmp 9)),none⟩,⟨(some 41),(.bin .sub 3 (.tmp 40) (.const (.int .i64 1))),none⟩,⟨(some 42),(.mov (.tmp 0)),none⟩,⟨(some 43),(.mov (.tmp 9)),none⟩,⟨(some 44),(.bin .sub 3 (.tmp 43) (.const (.int .i64 1))),none⟩,⟨(some 45),(.iaddr none 2 (.tmp 42) (.tmp 44)),none⟩,⟨(some 46),(.load true 2 (.tmp 45)),none⟩,⟨(some 47),(.mov (.tmp 0)),none⟩,⟨(some 48),(.mov (.tmp 9)),none⟩,⟨(some 49),(.iaddr none 2 (.tmp 47) (.tmp 48)),none⟩,⟨(some 50),(.load true 2 (.tmp 49)),none⟩,⟨(some 51),(.iaddr none 2 (.tmp 37) (.tmp 38)),none⟩,⟨none,(.store 2 (.tmp 51) (.tmp 46)),none⟩,⟨(some 52),(.iaddr none 2 (.tmp 39) (.tmp 41)),none⟩,⟨none,(.store 2 (.tmp 52) (.tmp 50)),none⟩] true [])) (.region [⟨(some 35),(.mov (.tmp 9)),none⟩,⟨(some 36),(.bin .sub 3 (.tmp 35) (.const (.int .i64 1))),none⟩,⟨(some 9),(.mov (.tmp 36)),none⟩] false [])))
def c131R1 : ACode:=(.region [⟨(some 15),(.mov (.tmp 8)),none⟩,⟨(some 16),(.bin .add 3 (.tmp 15) (.const (.int .i64 1))),none⟩,⟨(some 8),(.mov (.tmp 16)),none⟩] false [])
def c131L2 : ACode:=(.seq (.seq (.region [⟨(some 12),(.mov (.tmp 8)),none⟩,⟨(some 13),(.mov (.tmp 2)),none⟩,⟨(some 14),(.bin .lss 3 (.tmp 12) (.tmp 13)),none⟩] false []) (.cond (.tmp 14) .skip (.exit 0))) (.seq (.block 1 (.seq (.region [⟨(some 17),(.mov (.tmp 8)),none⟩,⟨(some 9),(.mov (.tmp 17)),none⟩] false []) (.block 2 (.loop c131L0)))) c131R1))
def c131 : ACode:=(.seq (.region [⟨(some 10),(.mov (.tmp 1)),none⟩,⟨(some 11),(.bin .add 3 (.tmp 10) (.const (.int .i64 1))),none⟩,⟨(some 8),(.mov (.tmp 11)),none⟩] false []) (.block 0 (.loop c131L2)))
def r131 : List ARes:=[]
theorem clos0 (a1 a2 b1 b2 : Int) (W : World) : Calls Go.Proofs.Tryz.prog 100 #[.agg #[.int .i64 a1,.int .i64 a2],.agg #[.int .i64 b1,.int .i64 b2]] W fun e w' => e = .returned (.int .i64 (IntKind.i64.wrap (a1 - b1))) ∧ ∃ q os',w' = grow (W.drewN q) os':=by
 go_enter Tryz.func100,Tryz.ntmps100
 go_wp2_with (fail)
 go_ret
 refine ⟨?_,0,_,by rw [alloc_eq_grow,alloc_eq_grow,grow_grow]; rfl⟩
 rw [Go.IntWalk.i64_left]
 rfl
theorem closR (x y : SR) (W : World) : Calls Go.Proofs.Tryz.prog 100 #[.agg (srE x).toArray,.agg (srE y).toArray] W fun e w' => e = .returned (.int .i64 (srCf x y)) ∧ ∃ q os',w' = grow (W.drewN q) os':=by
 have wr : IntKind.i64.wrap (x.1.1 - y.1.1) = srCf x y:=by
  have h1:=x.2
  have h2:=y.2
  unfold srCf
  exact wrap_i64 (by omega)
 rw [← wr]
 exact clos0 x.1.1 x.1.2 y.1.1 y.1.2 W
def lenP : List AV → Option AV
 | [.sc (.int .u64 0)] => some (.sc (.int .i64 0))
 | _ => none
theorem lenP_ok : PPrimOk Go.Proofs.Tryz.prog 124 lenP:=by
 intro args r h m F H w vs hI hl hv
 unfold lenP at h
 split at h
 ·cases h
  have h0:=(vr_sc (m:=m) (.fz (hv 0 _ rfl))).1
  obtain rfl : vs = #[.int .u64 0]:=by
   refine Array.ext (by simpa using hl) fun i h1 h2 => ?_
   simp at h2
   subst h2
   simpa [Array.getD_eq_getD_getElem?,h1] using h0
  refine .inl ⟨enters_of Tryz.func124 (by kernel_rfl) rfl _ _,?_⟩
  have hb:=Any.bits_Len (SlLaysF0.n15.bits (P:=Go.Proofs.Tryz.prog) (ρ:=Tryz.sortRun_ren) { Tryz.sortRun with }) 0 w (by omega) (by omega)
  refine hb.mono fun e w' ⟨he,hw⟩ => ?_
  subst hw
  exact ⟨_,m,F,he,.fz (.sc rfl),hI,Ext.refl m F _,Grew.refl m H⟩
 ·cases h
def ftZ : FT
 | 99 => some (.go true 14 r99 c99)
 | 123 => some (.go true 148 r123 c123)
 | 131 => some (.go true 53 r131 c131)
 | 124 => some (.pprim lenP)
 | _ => none
theorem fcZ99 : compF Go.Proofs.Tryz.prog 99 = some (14,r99,c99):=by rfl
theorem fcZ123 : compF Go.Proofs.Tryz.prog 123 = some (148,r123,c123):=by rfl
theorem fcZ131 : compF Go.Proofs.Tryz.prog 131 = some (53,r131,c131):=by rfl
theorem fnZ99 : (Go.Proofs.Tryz.prog.funcs[99]?).all (fun fn => !(fn.name == "runtime.NumGoroutine")) = true:=by kernel_rfl
theorem fnZ123 : (Go.Proofs.Tryz.prog.funcs[123]?).all (fun fn => !(fn.name == "runtime.NumGoroutine")) = true:=by kernel_rfl
theorem fnZ131 : (Go.Proofs.Tryz.prog.funcs[131]?).all (fun fn => !(fn.name == "runtime.NumGoroutine")) = true:=by kernel_rfl
theorem ftZ_ok : FTOk Go.Proofs.Tryz.prog ftZ:=by
 intro k d h
 unfold ftZ at h
 split at h
 ·cases h; exact go_ok fcZ99 fnZ99
 ·cases h; exact go_ok fcZ123 fnZ123
 ·cases h; exact go_ok fcZ131 fnZ131
 ·cases h; exact lenP_ok
 ·cases h
def clF : AV:=.fn (.func 100) [] []
theorem e131 (H : Heap) : callL ftZ (.fn (.func 131) [] []) [.lst [],int 0,int 0,clF] H = some (.tup [],H):=by
 refine call_p (as':=[.lst [],int 0,int 0,clF]) rfl rfl (by simp) ?_
 unfold c131 r131
 have w01 : IntKind.i64.wrap (0 + 1) = 1:=rfl
 have z0 : frz FZ (hx Heap.empty []) (retV []) = some (.tup [],hx Heap.empty []):=rfl
 simp only [↓vp,vz,Nat.reduceLT,Nat.reduceEqDiff,Nat.reduceLeDiff,Nat.reduceAdd,Nat.reduceSub,Nat.reduceMul,Int.reduceBEq,Int.reduceBNe,Int.reduceLT,Int.reduceLE,Int.reduceEq,reduceIte,reduceCtorEq,da,int,boolA]
 rw [AW_loop]
 unfold c131L2
 simp only [↓vp,vz,Nat.reduceLT,Nat.reduceEqDiff,Nat.reduceLeDiff,Nat.reduceAdd,Nat.reduceSub,Nat.reduceMul,Int.reduceBEq,Int.reduceBNe,Int.reduceLT,Int.reduceLE,Int.reduceEq,reduceIte,reduceCtorEq,da,int,boolA,w01]
 exact ⟨rfl,_,_,rfl,rfl⟩
theorem e123 (H : Heap) : callL ftZ (.fn (.func 123) [] []) [.lst [],int 0,int 0,int 0,clF] H = some (.tup [],H):=by
 refine call_p (as':=[.lst [],int 0,int 0,int 0,clF]) rfl rfl (by simp) ?_
 unfold c123 r123
 have w00 : IntKind.i64.wrap (0 - 0) = 0:=rfl
 have k131:=fun K L Q => @KW_of ftZ _ _ _ Q _ _ (e131 (hx K L))
 simp only [int] at k131
 simp only [↓vp,vz,Nat.reduceLT,Nat.reduceEqDiff,Nat.reduceLeDiff,Nat.reduceAdd,Nat.reduceSub,Nat.reduceMul,Int.reduceBEq,Int.reduceBNe,Int.reduceLT,Int.reduceLE,Int.reduceEq,reduceIte,reduceCtorEq,da,int,boolA]
 rw [AW_loop]
 unfold c123L0
 simp only [↓vp,vz,Nat.reduceLT,Nat.reduceEqDiff,Nat.reduceLeDiff,Nat.reduceAdd,Nat.reduceSub,Nat.reduceMul,Int.reduceBEq,Int.reduceBNe,Int.reduceLT,Int.reduceLE,Int.reduceEq,reduceIte,reduceCtorEq,da,int,boolA,w00,k131]
 exact ⟨rfl,_,_,rfl,rfl⟩
theorem e99 (H : Heap) : callL ftZ (.fn (.func 99) [] []) [.lst [],clF] H = some (.tup [],H):=by
 refine call_p (as':=[.lst [],clF]) rfl rfl (by simp) ?_
 unfold c99 r99
 have k123:=fun K L Q => @KW_of ftZ _ _ _ Q _ _ (e123 (hx K L))
 have k124 : ∀ K L Q,KW ftZ (.fn (.func 124) [] []) [.sc (.int .u64 0)] (hx K L) Q ↔ Q (.sc (.int .i64 0)) (hx K L):=fun K L Q => KW_of (call_pprim (p:=lenP) rfl rfl rfl)
 have l0 : ∀ H,lenV H 0 (.lst []) = some (.sc (.int .i64 0),H):=fun _ => rfl
 simp only [int] at k123
 simp only [↓vp,vz,Nat.reduceLT,Nat.reduceEqDiff,Nat.reduceLeDiff,Nat.reduceAdd,Nat.reduceSub,Nat.reduceMul,Int.reduceBEq,Int.reduceBNe,Int.reduceLT,Int.reduceLE,Int.reduceEq,reduceIte,reduceCtorEq,da,int,boolA,l0,(show IntKind.u64.wrap 0 = 0 from rfl),k124,k123]
 exact ⟨rfl,_,_,rfl,rfl⟩
theorem sort99 : PrimOk Go.Proofs.Tryz.prog 99 (sortP 100):=by
 refine sortP_ok Tryz.sortRun rfl (fun w => ?_) (fun w => ?_) ?_ ?_ closR (goP_ok (k:=99) (by kernel_rfl) ftZ_ok ⟨_,_,_,rfl⟩) ?_
 ·exact Go.Proofs.Tryz.isAgg60 w
 ·exact Go.Proofs.Tryz.sizeOf60 w
 ·exact Tryz.sortRun.f6.enters rfl
 ·exact enters_of Tryz.func100 (by kernel_rfl) rfl
 ·unfold goP
  have hc : closedL [.lst [],.fn (.func 100) [] []] = true:=rfl
  rw [if_pos hc]
  have:=e99 Heap.empty
  unfold clF at this
  rw [this]
  rfl
end Go.VI
namespace Go.VI
theorem fc9 : compF Go.Proofs.Tryz.prog 9 = some (116,r9,c9):=by kernel_rfl
theorem fn9 : (Go.Proofs.Tryz.prog.funcs[9]?).all (fun fn => !(fn.name == "runtime.NumGoroutine")) = true:=by kernel_rfl
theorem fc11 : compF Go.Proofs.Tryz.prog 11 = some (17,r11,c11):=by kernel_rfl
theorem fn11 : (Go.Proofs.Tryz.prog.funcs[11]?).all (fun fn => !(fn.name == "runtime.NumGoroutine")) = true:=by kernel_rfl
theorem fc13 : compF Go.Proofs.Tryz.prog 13 = some (17,r13,c13):=by kernel_rfl
theorem fn13 : (Go.Proofs.Tryz.prog.funcs[13]?).all (fun fn => !(fn.name == "runtime.NumGoroutine")) = true:=by kernel_rfl
theorem fc15 : compF Go.Proofs.Tryz.prog 15 = some (44,r15,c15):=by kernel_rfl
theorem fn15 : (Go.Proofs.Tryz.prog.funcs[15]?).all (fun fn => !(fn.name == "runtime.NumGoroutine")) = true:=by kernel_rfl
theorem fc16 : compF Go.Proofs.Tryz.prog 16 = some (51,r16,c16):=by kernel_rfl
theorem fn16 : (Go.Proofs.Tryz.prog.funcs[16]?).all (fun fn => !(fn.name == "runtime.NumGoroutine")) = true:=by kernel_rfl
theorem fc17 : compF Go.Proofs.Tryz.prog 17 = some (37,r17,c17):=by kernel_rfl
theorem fn17 : (Go.Proofs.Tryz.prog.funcs[17]?).all (fun fn => !(fn.name == "runtime.NumGoroutine")) = true:=by kernel_rfl
theorem fc18 : compF Go.Proofs.Tryz.prog 18 = some (36,r18,c18):=by kernel_rfl
theorem fn18 : (Go.Proofs.Tryz.prog.funcs[18]?).all (fun fn => !(fn.name == "runtime.NumGoroutine")) = true:=by kernel_rfl
theorem fc20 : compF Go.Proofs.Tryz.prog 20 = some (21,r20,c20):=by kernel_rfl
theorem fn20 : (Go.Proofs.Tryz.prog.funcs[20]?).all (fun fn => !(fn.name == "runtime.NumGoroutine")) = true:=by kernel_rfl
theorem fc25 : compF Go.Proofs.Tryz.prog 25 = some (8,r25,c25):=by kernel_rfl
theorem fn25 : (Go.Proofs.Tryz.prog.funcs[25]?).all (fun fn => !(fn.name == "runtime.NumGoroutine")) = true:=by kernel_rfl
theorem fc26 : compF Go.Proofs.Tryz.prog 26 = some (10,r26,c26):=by kernel_rfl
theorem fn26 : (Go.Proofs.Tryz.prog.funcs[26]?).all (fun fn => !(fn.name == "runtime.NumGoroutine")) = true:=by kernel_rfl
theorem fc27 : compF Go.Proofs.Tryz.prog 27 = some (19,r27,c27):=by kernel_rfl
theorem fn27 : (Go.Proofs.Tryz.prog.funcs[27]?).all (fun fn => !(fn.name == "runtime.NumGoroutine")) = true:=by kernel_rfl
theorem fc28 : compF Go.Proofs.Tryz.prog 28 = some (42,r28,c28):=by kernel_rfl
theorem fn28 : (Go.Proofs.Tryz.prog.funcs[28]?).all (fun fn => !(fn.name == "runtime.NumGoroutine")) = true:=by kernel_rfl
theorem fc29 : compF Go.Proofs.Tryz.prog 29 = some (9,r29,c29):=by kernel_rfl
theorem fn29 : (Go.Proofs.Tryz.prog.funcs[29]?).all (fun fn => !(fn.name == "runtime.NumGoroutine")) = true:=by kernel_rfl
theorem fc30 : compF Go.Proofs.Tryz.prog 30 = some (94,r30,c30):=by kernel_rfl
theorem fn30 : (Go.Proofs.Tryz.prog.funcs[30]?).all (fun fn => !(fn.name == "runtime.NumGoroutine")) = true:=by kernel_rfl
theorem fc31 : compF Go.Proofs.Tryz.prog 31 = some (93,r31,c31):=by kernel_rfl
theorem fn31 : (Go.Proofs.Tryz.prog.funcs[31]?).all (fun fn => !(fn.name == "runtime.NumGoroutine")) = true:=by kernel_rfl
theorem fc32 : compF Go.Proofs.Tryz.prog 32 = some (24,r32,c32):=by kernel_rfl
theorem fn32 : (Go.Proofs.Tryz.prog.funcs[32]?).all (fun fn => !(fn.name == "runtime.NumGoroutine")) = true:=by kernel_rfl
theorem fc33 : compF Go.Proofs.Tryz.prog 33 = some (40,r33,c33):=by kernel_rfl
theorem fn33 : (Go.Proofs.Tryz.prog.funcs[33]?).all (fun fn => !(fn.name == "runtime.NumGoroutine")) = true:=by kernel_rfl
theorem fc35 : compF Go.Proofs.Tryz.prog 35 = some (26,r35,c35):=by kernel_rfl
theorem fn35 : (Go.Proofs.Tryz.prog.funcs[35]?).all (fun fn => !(fn.name == "runtime.NumGoroutine")) = true:=by kernel_rfl
theorem fc43 : compF Go.Proofs.Tryz.prog 43 = some (26,r43,c43):=by kernel_rfl
theorem fn43 : (Go.Proofs.Tryz.prog.funcs[43]?).all (fun fn => !(fn.name == "runtime.NumGoroutine")) = true:=by kernel_rfl
theorem fc44 : compF Go.Proofs.Tryz.prog 44 = some (29,r44,c44):=by kernel_rfl
theorem fn44 : (Go.Proofs.Tryz.prog.funcs[44]?).all (fun fn => !(fn.name == "runtime.NumGoroutine")) = true:=by kernel_rfl
theorem fc45 : compF Go.Proofs.Tryz.prog 45 = some (19,r45,c45):=by kernel_rfl
theorem fn45 : (Go.Proofs.Tryz.prog.funcs[45]?).all (fun fn => !(fn.name == "runtime.NumGoroutine")) = true:=by kernel_rfl
theorem fc46 : compF Go.Proofs.Tryz.prog 46 = some (9,r46,c46):=by kernel_rfl
theorem fn46 : (Go.Proofs.Tryz.prog.funcs[46]?).all (fun fn => !(fn.name == "runtime.NumGoroutine")) = true:=by kernel_rfl
theorem fc47 : compF Go.Proofs.Tryz.prog 47 = some (11,r47,c47):=by kernel_rfl
theorem fn47 : (Go.Proofs.Tryz.prog.funcs[47]?).all (fun fn => !(fn.name == "runtime.NumGoroutine")) = true:=by kernel_rfl
theorem fc48 : compF Go.Proofs.Tryz.prog 48 = some (9,r48,c48):=by kernel_rfl
theorem fn48 : (Go.Proofs.Tryz.prog.funcs[48]?).all (fun fn => !(fn.name == "runtime.NumGoroutine")) = true:=by kernel_rfl
theorem fc49 : compF Go.Proofs.Tryz.prog 49 = some (32,r49,c49):=by kernel_rfl
theorem fn49 : (Go.Proofs.Tryz.prog.funcs[49]?).all (fun fn => !(fn.name == "runtime.NumGoroutine")) = true:=by kernel_rfl
theorem fc50 : compF Go.Proofs.Tryz.prog 50 = some (98,r50,c50):=by kernel_rfl
theorem fn50 : (Go.Proofs.Tryz.prog.funcs[50]?).all (fun fn => !(fn.name == "runtime.NumGoroutine")) = true:=by kernel_rfl
theorem fc51 : compF Go.Proofs.Tryz.prog 51 = some (50,r51,c51):=by kernel_rfl
theorem fn51 : (Go.Proofs.Tryz.prog.funcs[51]?).all (fun fn => !(fn.name == "runtime.NumGoroutine")) = true:=by kernel_rfl
theorem fc53 : compF Go.Proofs.Tryz.prog 53 = some (24,r53,c53):=by kernel_rfl
theorem fn53 : (Go.Proofs.Tryz.prog.funcs[53]?).all (fun fn => !(fn.name == "runtime.NumGoroutine")) = true:=by kernel_rfl
theorem fc55 : compF Go.Proofs.Tryz.prog 55 = some (7,r55,c55):=by kernel_rfl
theorem fn55 : (Go.Proofs.Tryz.prog.funcs[55]?).all (fun fn => !(fn.name == "runtime.NumGoroutine")) = true:=by kernel_rfl
theorem fc57 : compF Go.Proofs.Tryz.prog 57 = some (57,r57,c57):=by kernel_rfl
theorem fn57 : (Go.Proofs.Tryz.prog.funcs[57]?).all (fun fn => !(fn.name == "runtime.NumGoroutine")) = true:=by kernel_rfl
theorem fc58 : compF Go.Proofs.Tryz.prog 58 = some (22,r58,c58):=by kernel_rfl
theorem fn58 : (Go.Proofs.Tryz.prog.funcs[58]?).all (fun fn => !(fn.name == "runtime.NumGoroutine")) = true:=by kernel_rfl
theorem fc59 : compF Go.Proofs.Tryz.prog 59 = some (11,r59,c59):=by kernel_rfl
theorem fn59 : (Go.Proofs.Tryz.prog.funcs[59]?).all (fun fn => !(fn.name == "runtime.NumGoroutine")) = true:=by kernel_rfl
theorem fc60 : compF Go.Proofs.Tryz.prog 60 = some (8,r60,c60):=by kernel_rfl
theorem fn60 : (Go.Proofs.Tryz.prog.funcs[60]?).all (fun fn => !(fn.name == "runtime.NumGoroutine")) = true:=by kernel_rfl
theorem fc61 : compF Go.Proofs.Tryz.prog 61 = some (49,r61,c61):=by kernel_rfl
theorem fn61 : (Go.Proofs.Tryz.prog.funcs[61]?).all (fun fn => !(fn.name == "runtime.NumGoroutine")) = true:=by kernel_rfl
theorem fc62 : compF Go.Proofs.Tryz.prog 62 = some (8,r62,c62):=by kernel_rfl
theorem fn62 : (Go.Proofs.Tryz.prog.funcs[62]?).all (fun fn => !(fn.name == "runtime.NumGoroutine")) = true:=by kernel_rfl
theorem fc63 : compF Go.Proofs.Tryz.prog 63 = some (12,r63,c63):=by kernel_rfl
theorem fn63 : (Go.Proofs.Tryz.prog.funcs[63]?).all (fun fn => !(fn.name == "runtime.NumGoroutine")) = true:=by kernel_rfl
theorem fc64 : compF Go.Proofs.Tryz.prog 64 = some (5,r64,c64):=by kernel_rfl
theorem fn64 : (Go.Proofs.Tryz.prog.funcs[64]?).all (fun fn => !(fn.name == "runtime.NumGoroutine")) = true:=by kernel_rfl
theorem fc65 : compF Go.Proofs.Tryz.prog 65 = some (7,r65,c65):=by kernel_rfl
theorem fn65 : (Go.Proofs.Tryz.prog.funcs[65]?).all (fun fn => !(fn.name == "runtime.NumGoroutine")) = true:=by kernel_rfl
theorem fc66 : compF Go.Proofs.Tryz.prog 66 = some (6,r66,c66):=by kernel_rfl
theorem fn66 : (Go.Proofs.Tryz.prog.funcs[66]?).all (fun fn => !(fn.name == "runtime.NumGoroutine")) = true:=by kernel_rfl
theorem fc67 : compF Go.Proofs.Tryz.prog 67 = some (65,r67,c67):=by kernel_rfl
theorem fn67 : (Go.Proofs.Tryz.prog.funcs[67]?).all (fun fn => !(fn.name == "runtime.NumGoroutine")) = true:=by kernel_rfl
theorem fc68 : compF Go.Proofs.Tryz.prog 68 = some (90,r68,c68):=by kernel_rfl
theorem fn68 : (Go.Proofs.Tryz.prog.funcs[68]?).all (fun fn => !(fn.name == "runtime.NumGoroutine")) = true:=by kernel_rfl
theorem fc69 : compF Go.Proofs.Tryz.prog 69 = some (36,r69,c69):=by kernel_rfl
theorem fn69 : (Go.Proofs.Tryz.prog.funcs[69]?).all (fun fn => !(fn.name == "runtime.NumGoroutine")) = true:=by kernel_rfl
theorem fc83 : compF Go.Proofs.Tryz.prog 83 = some (9,r83,c83):=by kernel_rfl
theorem fn83 : (Go.Proofs.Tryz.prog.funcs[83]?).all (fun fn => !(fn.name == "runtime.NumGoroutine")) = true:=by kernel_rfl
theorem fc84 : compF Go.Proofs.Tryz.prog 84 = some (9,r84,c84):=by kernel_rfl
theorem fn84 : (Go.Proofs.Tryz.prog.funcs[84]?).all (fun fn => !(fn.name == "runtime.NumGoroutine")) = true:=by kernel_rfl
theorem fc85 : compF Go.Proofs.Tryz.prog 85 = some (29,r85,c85):=by kernel_rfl
theorem fn85 : (Go.Proofs.Tryz.prog.funcs[85]?).all (fun fn => !(fn.name == "runtime.NumGoroutine")) = true:=by kernel_rfl
theorem fc86 : compF Go.Proofs.Tryz.prog 86 = some (9,r86,c86):=by kernel_rfl
theorem fn86 : (Go.Proofs.Tryz.prog.funcs[86]?).all (fun fn => !(fn.name == "runtime.NumGoroutine")) = true:=by kernel_rfl
theorem fc87 : compF Go.Proofs.Tryz.prog 87 = some (14,r87,c87):=by kernel_rfl
theorem fn87 : (Go.Proofs.Tryz.prog.funcs[87]?).all (fun fn => !(fn.name == "runtime.NumGoroutine")) = true:=by kernel_rfl
theorem fc88 : compF Go.Proofs.Tryz.prog 88 = some (35,r88,c88):=by kernel_rfl
theorem fn88 : (Go.Proofs.Tryz.prog.funcs[88]?).all (fun fn => !(fn.name == "runtime.NumGoroutine")) = true:=by kernel_rfl
theorem fc89 : compF Go.Proofs.Tryz.prog 89 = some (15,r89,c89):=by kernel_rfl
theorem fn89 : (Go.Proofs.Tryz.prog.funcs[89]?).all (fun fn => !(fn.name == "runtime.NumGoroutine")) = true:=by kernel_rfl
theorem fc90 : compF Go.Proofs.Tryz.prog 90 = some (55,r90,c90):=by kernel_rfl
theorem fn90 : (Go.Proofs.Tryz.prog.funcs[90]?).all (fun fn => !(fn.name == "runtime.NumGoroutine")) = true:=by kernel_rfl
theorem fc95 : compF Go.Proofs.Tryz.prog 95 = some (19,r95,c95):=by kernel_rfl
theorem fn95 : (Go.Proofs.Tryz.prog.funcs[95]?).all (fun fn => !(fn.name == "runtime.NumGoroutine")) = true:=by kernel_rfl
theorem fc96 : compF Go.Proofs.Tryz.prog 96 = some (16,r96,c96):=by kernel_rfl
theorem fn96 : (Go.Proofs.Tryz.prog.funcs[96]?).all (fun fn => !(fn.name == "runtime.NumGoroutine")) = true:=by kernel_rfl
theorem fc97 : compF Go.Proofs.Tryz.prog 97 = some (8,r97,c97):=by kernel_rfl
theorem fn97 : (Go.Proofs.Tryz.prog.funcs[97]?).all (fun fn => !(fn.name == "runtime.NumGoroutine")) = true:=by kernel_rfl
theorem fc98 : compF Go.Proofs.Tryz.prog 98 = some (31,r98,c98):=by kernel_rfl
theorem fn98 : (Go.Proofs.Tryz.prog.funcs[98]?).all (fun fn => !(fn.name == "runtime.NumGoroutine")) = true:=by kernel_rfl
theorem fc100 : compF Go.Proofs.Tryz.prog 100 = some (10,r100,c100):=by kernel_rfl
theorem fn100 : (Go.Proofs.Tryz.prog.funcs[100]?).all (fun fn => !(fn.name == "runtime.NumGoroutine")) = true:=by kernel_rfl
theorem fc101 : compF Go.Proofs.Tryz.prog 101 = some (15,r101,c101):=by kernel_rfl
theorem fn101 : (Go.Proofs.Tryz.prog.funcs[101]?).all (fun fn => !(fn.name == "runtime.NumGoroutine")) = true:=by kernel_rfl
theorem fc102 : compF Go.Proofs.Tryz.prog 102 = some (9,r102,c102):=by kernel_rfl
theorem fn102 : (Go.Proofs.Tryz.prog.funcs[102]?).all (fun fn => !(fn.name == "runtime.NumGoroutine")) = true:=by kernel_rfl
theorem fc103 : compF Go.Proofs.Tryz.prog 103 = some (8,r103,c103):=by kernel_rfl
theorem fn103 : (Go.Proofs.Tryz.prog.funcs[103]?).all (fun fn => !(fn.name == "runtime.NumGoroutine")) = true:=by kernel_rfl
theorem fc105 : compF Go.Proofs.Tryz.prog 105 = some (4,r105,c105):=by kernel_rfl
theorem fn105 : (Go.Proofs.Tryz.prog.funcs[105]?).all (fun fn => !(fn.name == "runtime.NumGoroutine")) = true:=by kernel_rfl
theorem fc106 : compF Go.Proofs.Tryz.prog 106 = some (53,r106,c106):=by kernel_rfl
theorem fn106 : (Go.Proofs.Tryz.prog.funcs[106]?).all (fun fn => !(fn.name == "runtime.NumGoroutine")) = true:=by kernel_rfl
theorem fc107 : compF Go.Proofs.Tryz.prog 107 = some (14,r107,c107):=by kernel_rfl
theorem fn107 : (Go.Proofs.Tryz.prog.funcs[107]?).all (fun fn => !(fn.name == "runtime.NumGoroutine")) = true:=by kernel_rfl
theorem fc108 : compF Go.Proofs.Tryz.prog 108 = some (23,r108,c108):=by kernel_rfl
theorem fn108 : (Go.Proofs.Tryz.prog.funcs[108]?).all (fun fn => !(fn.name == "runtime.NumGoroutine")) = true:=by kernel_rfl
theorem fc109 : compF Go.Proofs.Tryz.prog 109 = some (27,r109,c109):=by kernel_rfl
theorem fn109 : (Go.Proofs.Tryz.prog.funcs[109]?).all (fun fn => !(fn.name == "runtime.NumGoroutine")) = true:=by kernel_rfl
theorem fc114 : compF Go.Proofs.Tryz.prog 114 = some (6,r114,c114):=by kernel_rfl
theorem fn114 : (Go.Proofs.Tryz.prog.funcs[114]?).all (fun fn => !(fn.name == "runtime.NumGoroutine")) = true:=by kernel_rfl
theorem fc115 : compF Go.Proofs.Tryz.prog 115 = some (19,r115,c115):=by kernel_rfl
theorem fn115 : (Go.Proofs.Tryz.prog.funcs[115]?).all (fun fn => !(fn.name == "runtime.NumGoroutine")) = true:=by kernel_rfl
theorem fc116 : compF Go.Proofs.Tryz.prog 116 = some (31,r116,c116):=by kernel_rfl
theorem fn116 : (Go.Proofs.Tryz.prog.funcs[116]?).all (fun fn => !(fn.name == "runtime.NumGoroutine")) = true:=by kernel_rfl
theorem fc117 : compF Go.Proofs.Tryz.prog 117 = some (26,r117,c117):=by kernel_rfl
theorem fn117 : (Go.Proofs.Tryz.prog.funcs[117]?).all (fun fn => !(fn.name == "runtime.NumGoroutine")) = true:=by kernel_rfl
theorem fc118 : compF Go.Proofs.Tryz.prog 118 = some (12,r118,c118):=by kernel_rfl
theorem fn118 : (Go.Proofs.Tryz.prog.funcs[118]?).all (fun fn => !(fn.name == "runtime.NumGoroutine")) = true:=by kernel_rfl
theorem fc119 : compF Go.Proofs.Tryz.prog 119 = some (31,r119,c119):=by kernel_rfl
theorem fn119 : (Go.Proofs.Tryz.prog.funcs[119]?).all (fun fn => !(fn.name == "runtime.NumGoroutine")) = true:=by kernel_rfl
theorem fc125 : compF Go.Proofs.Tryz.prog 125 = some (15,r125,c125):=by kernel_rfl
theorem fn125 : (Go.Proofs.Tryz.prog.funcs[125]?).all (fun fn => !(fn.name == "runtime.NumGoroutine")) = true:=by kernel_rfl
theorem fc126 : compF Go.Proofs.Tryz.prog 126 = some (19,r126,c126):=by kernel_rfl
theorem fn126 : (Go.Proofs.Tryz.prog.funcs[126]?).all (fun fn => !(fn.name == "runtime.NumGoroutine")) = true:=by kernel_rfl
theorem fc128 : compF Go.Proofs.Tryz.prog 128 = some (14,r128,c128):=by kernel_rfl
theorem fn128 : (Go.Proofs.Tryz.prog.funcs[128]?).all (fun fn => !(fn.name == "runtime.NumGoroutine")) = true:=by kernel_rfl
theorem fc129 : compF Go.Proofs.Tryz.prog 129 = some (14,r129,c129):=by kernel_rfl
theorem fn129 : (Go.Proofs.Tryz.prog.funcs[129]?).all (fun fn => !(fn.name == "runtime.NumGoroutine")) = true:=by kernel_rfl
theorem fc54 : compF Go.Proofs.Tryz.prog 54 = some (8,r54,c54):=by kernel_rfl
theorem fn54 : (Go.Proofs.Tryz.prog.funcs[54]?).all (fun fn => !(fn.name == "runtime.NumGoroutine")) = true:=by kernel_rfl
theorem fc56 : compF Go.Proofs.Tryz.prog 56 = some (8,r56,c56):=by kernel_rfl
theorem fn56 : (Go.Proofs.Tryz.prog.funcs[56]?).all (fun fn => !(fn.name == "runtime.NumGoroutine")) = true:=by kernel_rfl
theorem fc104 : compF Go.Proofs.Tryz.prog 104 = some (8,r104,c104):=by kernel_rfl
theorem fn104 : (Go.Proofs.Tryz.prog.funcs[104]?).all (fun fn => !(fn.name == "runtime.NumGoroutine")) = true:=by kernel_rfl
theorem fc8 : compF Go.Proofs.Tryz.prog 8 = some (97,r8,c8):=by kernel_rfl
theorem fn8 : (Go.Proofs.Tryz.prog.funcs[8]?).all (fun fn => !(fn.name == "runtime.NumGoroutine")) = true:=by kernel_rfl
theorem follows : Go.Proofs.Tryz.prog.follows .mixedOrders = true:=by kernel_rfl
def zR : List AV:=[.sc (.int .i64 0),.sc (.int .i64 0)]
theorem t_cloR : c56 = cloC 2 16 zR:=rfl
theorem t_cloB : c104 = cloC 1 1 [.sc (.int .u8 0)]:=rfl
theorem g56 : GoFn Go.Proofs.Tryz.prog 56 8 [.tmp 2] (cloC 2 16 zR):=by
 have h:=go_ok fc56 fn56
 rw [t_cloR] at h
 exact h
theorem g104 : GoFn Go.Proofs.Tryz.prog 104 8 [.tmp 2] (cloC 1 1 [.sc (.int .u8 0)]):=by
 have h:=go_ok fc104 fn104
 rw [t_cloB] at h
 exact h
theorem ft_ok : FTOk Go.Proofs.Tryz.prog ft:=by
 intro k d h
 unfold ft at h
 split at h
 ·cases h; exact go_ok fc9 fn9
 ·cases h; exact go_ok fc11 fn11
 ·cases h; exact go_ok fc13 fn13
 ·cases h; exact go_ok fc15 fn15
 ·cases h; exact go_ok fc16 fn16
 ·cases h; exact go_ok fc17 fn17
 ·cases h; exact go_ok fc18 fn18
 ·cases h; exact go_ok fc20 fn20
 ·cases h; exact go_ok fc25 fn25
 ·cases h; exact go_ok fc26 fn26
 ·cases h; exact go_ok fc27 fn27
 ·cases h; exact go_ok fc28 fn28
 ·cases h; exact go_ok fc29 fn29
 ·cases h; exact go_ok fc30 fn30
 ·cases h; exact go_ok fc31 fn31
 ·cases h; exact go_ok fc32 fn32
 ·cases h; exact go_ok fc33 fn33
 ·cases h; exact go_ok fc35 fn35
 ·cases h; exact go_ok fc43 fn43
 ·cases h; exact go_ok fc44 fn44
 ·cases h; exact go_ok fc45 fn45
 ·cases h; exact go_ok fc46 fn46
 ·cases h; exact go_ok fc47 fn47
 ·cases h; exact go_ok fc48 fn48
 ·cases h; exact go_ok fc49 fn49
 ·cases h; exact go_ok fc50 fn50
 ·cases h; exact go_ok fc51 fn51
 ·cases h; exact go_ok fc53 fn53
 ·cases h; exact go_ok fc55 fn55
 ·cases h; exact go_ok fc57 fn57
 ·cases h; exact go_ok fc58 fn58
 ·cases h; exact go_ok fc59 fn59
 ·cases h; exact go_ok fc60 fn60
 ·cases h; exact go_ok fc61 fn61
 ·cases h; exact go_ok fc62 fn62
 ·cases h; exact go_ok fc63 fn63
 ·cases h; exact go_ok fc64 fn64
 ·cases h; exact go_ok fc65 fn65
 ·cases h; exact go_ok fc66 fn66
 ·cases h; exact go_ok fc67 fn67
 ·cases h; exact go_ok fc68 fn68
 ·cases h; exact go_ok fc69 fn69
 ·cases h; exact go_ok fc83 fn83
 ·cases h; exact go_ok fc84 fn84
 ·cases h; exact go_ok fc85 fn85
 ·cases h; exact go_ok fc86 fn86
 ·cases h; exact go_ok fc87 fn87
 ·cases h; exact go_ok fc88 fn88
 ·cases h; exact go_ok fc89 fn89
 ·cases h; exact go_ok fc90 fn90
 ·cases h; exact go_ok fc95 fn95
 ·cases h; exact go_ok fc96 fn96
 ·cases h; exact go_ok fc97 fn97
 ·cases h; exact go_ok fc98 fn98
 ·cases h; exact go_ok fc100 fn100
 ·cases h; exact go_ok fc101 fn101
 ·cases h; exact go_ok fc102 fn102
 ·cases h; exact go_ok fc103 fn103
 ·cases h; exact go_ok fc105 fn105
 ·cases h; exact go_ok fc106 fn106
 ·cases h; exact go_ok fc107 fn107
 ·cases h; exact go_ok fc108 fn108
 ·cases h; exact go_ok fc109 fn109
 ·cases h; exact go_ok fc114 fn114
 ·cases h; exact go_ok fc115 fn115
 ·cases h; exact go_ok fc116 fn116
 ·cases h; exact go_ok fc117 fn117
 ·cases h; exact go_ok fc118 fn118
 ·cases h; exact go_ok fc119 fn119
 ·cases h; exact go_ok fc125 fn125
 ·cases h; exact go_ok fc126 fn126
 ·cases h; exact go_ok fc128 fn128
 ·cases h; exact go_ok fc129 fn129
 ·cases h; exact ecloP_ok follows g56
 ·cases h; exact cloF_ok follows g104
 ·cases h; exact sort99
 ·cases h
theorem ftO_ok : FTOk Go.Proofs.Tryz.prog ftO:=by
 intro k d h
 unfold ftO at h
 split at h
 ·cases h; exact go_ok fc54 fn54
 ·exact ft_ok _ _ h
theorem ftM_ok : FTOk Go.Proofs.Tryz.prog ftM:=by
 intro k d h
 unfold ftM at h
 split at h
 ·cases h; exact roP_ok (goP_ok follows ftO_ok ⟨_,_,_,rfl⟩)
 ·exact ft_ok _ _ h
theorem ftG_ok : FTOk Go.Proofs.Tryz.prog ftG:=by
 intro k d h
 unfold ftG at h
 split at h
 ·cases h; exact goP_ok follows ftM_ok ⟨_,_,_,rfl⟩
 ·cases h; exact goP_ok follows ftM_ok ⟨_,_,_,rfl⟩
 ·cases h; exact goP_ok follows ftM_ok ⟨_,_,_,rfl⟩
 ·cases h; exact goP_ok follows ftM_ok ⟨_,_,_,rfl⟩
 ·cases h; exact goP_ok follows ftM_ok ⟨_,_,_,rfl⟩
 ·cases h; exact goP_ok follows ftM_ok ⟨_,_,_,rfl⟩
 ·cases h; exact goP_ok follows ftM_ok ⟨_,_,_,rfl⟩
 ·cases h; exact goP_ok follows ftM_ok ⟨_,_,_,rfl⟩
 ·exact ft_ok _ _ h
theorem ftG8_ok : FTOk Go.Proofs.Tryz.prog ftG8:=by
 intro k d h
 unfold ftG8 at h
 split at h
 ·cases h; exact go_ok fc8 fn8
 ·exact ftG_ok _ _ h
end Go.VI
namespace Go.VI
theorem RD.mono {P : Program} {W : World} {t : TypeId} {E E' : List AV → Prop} (h : RD P W t E) (hE : ∀ xs,E xs → E' xs) : RD P W t E':=fun H enc base spare held fuel cs x hx hw => by
 obtain ⟨xs,h1,h2⟩:=h H enc base spare held fuel cs x hx hw
 exact ⟨xs,hE xs h1,h2⟩
theorem rows_map {α : Type} {g : α → List AV} {p : α → Prop} : ∀ {rows : List (List AV)},(∀ r ∈ rows,∃ x,r = g x ∧ p x) → ∃ l : List α,rows = l.map g ∧ ∀ x ∈ l,p x
 | [],_ => ⟨[],rfl,by simp⟩
 | r :: rows,h => by
  obtain ⟨x,rfl,hx⟩:=h r List.mem_cons_self
  obtain ⟨l,rfl,hl⟩:=rows_map fun r hr => h r (List.mem_cons_of_mem _ hr)
  exact ⟨x :: l,rfl,fun y hy => by
   rcases List.mem_cons.1 hy with rfl | hy
   ·exact hx
   ·exact hl y hy⟩
theorem CVF.append {F : Fz} {a b : List AV} {cs : List Value} {n : Nat} (hn : n ≤ cs.length) (ha : CVF F a (cs.take n)) (hb : CVF F b (cs.drop n)) : CVF F (a ++ b) cs:=by
 have hla : a.length = n:=by rw [ha.1,List.length_take]; omega
 refine ⟨by rw [List.length_append,hb.1,hla,List.length_drop]; omega,fun i c h => ?_⟩
 by_cases hi : i < n
 ·rw [List.getElem?_append_left (by omega)] at h
  obtain ⟨h1,h2⟩:=ha.2 i c h
  refine ⟨h1,?_⟩
  rwa [List.getD_eq_getElem?_getD,List.getElem?_take_of_lt hi,← List.getD_eq_getElem?_getD] at h2
 ·rw [List.getElem?_append_right (by omega)] at h
  obtain ⟨h1,h2⟩:=hb.2 _ c h
  refine ⟨h1,?_⟩
  rw [List.getD_eq_getElem?_getD,List.getElem?_drop] at h2
  rw [List.getD_eq_getElem?_getD]
  rwa [show n + (i - a.length) = i by omega] at h2
theorem okWide_stc {P : Program} {w : World} {r : Reach} {base : Nat} {t : TypeId} {fs : Array Field} {v : Value} (ht : P.underlying t = some (.struct fs)) (h : Value.okWide P w r base t v) : ∃ cs,v = .agg cs:=by
 unfold Value.okWide at h
 rw [ht] at h
 obtain ⟨cs,h1,_⟩:=h
 exact ⟨cs,h1⟩
def CVA (F : Fz) (xs : List AV) (cs : List Value) : Prop:=xs.length = cs.length ∧ ∀ i c,xs[i]? = some c → VF F c (cs.getD i undef)
theorem CVA.one {F : Fz} {a : AV} {v : Value} (h : VF F a v) : CVA F [a] [v]:=⟨rfl,fun i c hc => by
 cases i with
 | zero => cases hc; exact h
 | succ i => simp at hc⟩
theorem CVA.cons {F : Fz} {a : AV} {v : Value} {l : List AV} {vs : List Value} (h : CVA F [a] [v]) (ht : CVA F l vs) : CVA F (a :: l) (v :: vs):=⟨by simp [ht.1],fun i c hc => by
 cases i with
 | zero => exact h.2 0 c hc
 | succ i => exact ht.2 i c hc⟩
theorem CVA.agg {F : Fz} {xs : List AV} {cs : Array Value} (h : CVF F xs cs.toList) : CVA F [.agg xs] [.agg cs] :=
 .one (.agg (by have:=h.1; simpa using this.symm) (fun i c hc => (h.2 i c hc).1) (fun i c hc => by
  have:=(h.2 i c hc).2
  rwa [List.getD_eq_getElem?_getD,Array.getElem?_toList,← Array.getD_eq_getD_getElem?] at this))
theorem vrs_ofA {F : Fz} {m : Mp} {args : List AV} {vs : List Value} (h : CVA F args vs) : VRs m F args vs.toArray:=by
 refine ⟨?_,?_⟩
 ·simp [h.1]
 ·intro i c hc
  have:=h.2 i c hc
  simpa using VR.fz this
end Go.VI
namespace Go.VI
open Go.Proofs
variable (W : World)
theorem rdInt : RD Tryz.prog W 3 fun xs => ∃ n,xs = [int n] ∧ (Lit.int .i64 n).wf = true:=rd_int Tryz.underlying3
def okRn (x : RunM) : Prop:=True
theorem rdRn : RD Tryz.prog W 89 fun xs => ∃ x : RunM,xs = runC x ∧ okRn x :=
 (rd_struct (Es:=[_,_]) Tryz.underlying89 (by kernel_rfl) ⟨rdInt W,rdInt W,trivial⟩).mono fun xs h => by
  obtain ⟨_,_,rfl,⟨a,rfl,_⟩,_,_,rfl,⟨b,rfl,_⟩,rfl⟩:=h
  exact ⟨(a,b),rfl,trivial⟩
def okR (l : List RunM) : Prop:=l.length ≤ 100000000000000
theorem rdR : RD Tryz.prog W 36 fun xs => ∃ l : List RunM,xs = [encR l] ∧ okR l :=
 (rd_slice (sz:=2) (B:=16) Tryz.underlying36 (by kernel_rfl) (by decide) (by kernel_rfl) (rdRn W)).mono fun xs ⟨rows,h1,h2,h3⟩ => by
  obtain ⟨l,rfl,hl⟩:=rows_map (g:=runC) (p:=okRn) fun r hr => (h2 r hr).1
  refine ⟨l,h1,?_⟩
  simp only [List.length_map,reachBytes] at h3
  unfold okR
  omega
def encSt (l : List RunM × List RunM) : List AV:=[encR l.1,encR l.2]
def okSt (l : List RunM × List RunM) : Prop:=l.1.length ≤ 100000000000000 ∧ l.2.length ≤ 100000000000000
theorem rdSt : RD Tryz.prog W 38 fun xs => ∃ l : List RunM × List RunM,xs = encSt l ∧ okSt l :=
 (rd_struct (Es:=[_,_]) Tryz.underlying38 (by kernel_rfl) ⟨rdR W,rdR W,trivial⟩).mono fun xs h => by
  obtain ⟨_,_,rfl,⟨a,rfl,ha⟩,_,_,rfl,⟨b,rfl,hb⟩,rfl⟩:=h
  exact ⟨(a,b),rfl,ha,hb⟩
end Go.VI
namespace Go.VI
attribute [local congr] AW_congr OW_congr DW_congr NW_congr VW_congr GW_congr PW_congr KW_congr ite_congr' GV_congr CV_congr KF_congr
noncomputable def ftG5 : FT
 | 5 => some (.go true 33 r5 c5)
 | k => ftG8 k
theorem ftG5_sub : Sub ftG8 ftG5:=by
 intro k d h
 unfold ftG5
 split
 ·exact absurd h (by unfold ftG8 ftG ft; simp)
 ·exact h
theorem sameM_self (l : List RunM) : sameM l l = true:=by
 unfold sameM
 simp
theorem fewS_le {f h : List RunM} (e : fewS f h = true) : f.length ≤ 400 ∧ h.length ≤ 400 ∧ f.length + h.length ≤ 400 ∧ sumD f + sumD h ≤ 3000:=by
 unfold fewS at e
 rw [Bool.and_eq_true,decide_eq_true_eq,decide_eq_true_eq] at e
 omega
theorem c5_body (f h f' h' : List RunM) (l1 : f.length ≤ 100000000000000) (l2 : h.length ≤ 100000000000000) (l3 : f'.length ≤ 100000000000000) (l4 : h'.length ≤ 100000000000000) :
  AW ftG8 c5 (mkE 33 (ofL [.agg [encR f,encR h],.agg [encR f',encR h']])) (hx Heap.empty []) (RetP r5 (boolA true)):=by
 unfold c5 r5
 have k8:=fun K L Q => @KW_of ftG8 _ _ _ Q _ _ (s8 (hx K L))
 have k15:=fun K L Q => @KW_of ftG8 _ _ _ Q _ _ (callL_sub ftG8_sub (s15 f h l1 l2 (hx K L)))
 have k15':=fun K L Q => @KW_of ftG8 _ _ _ Q _ _ (callL_sub ftG8_sub (s15 f' h' l3 l4 (hx K L)))
 simp only [boolA] at k8
 cases e1 : fewS f h with
 | false =>
  rw [e1] at k15
  simp only [boolA] at k15
  simp only [↓vp,vz,Nat.reduceLT,Nat.reduceEqDiff,Nat.reduceLeDiff,Nat.reduceAdd,Nat.reduceSub,Nat.reduceMul,Int.reduceBEq,Int.reduceBNe,Int.reduceLT,Int.reduceLE,Int.reduceEq,reduceIte,reduceCtorEq,da,int,boolA,rt,dr,k15,k8]
 | true =>
  cases e2 : fewS f' h' with
  | false =>
   rw [e1] at k15
   rw [e2] at k15'
   simp only [boolA] at k15 k15'
   simp only [↓vp,vz,Nat.reduceLT,Nat.reduceEqDiff,Nat.reduceLeDiff,Nat.reduceAdd,Nat.reduceSub,Nat.reduceMul,Int.reduceBEq,Int.reduceBNe,Int.reduceLT,Int.reduceLE,Int.reduceEq,reduceIte,reduceCtorEq,da,int,boolA,rt,dr,k15,k15',k8]
  | true =>
   rw [e1] at k15
   rw [e2] at k15'
   obtain ⟨a1,a2,-,-⟩:=fewS_le e1
   obtain ⟨a3,a4,-,-⟩:=fewS_le e2
   have k17:=fun K L Q => @KW_of ftG8 _ _ _ Q _ _ (callL_sub ftG8_sub (s17 f h (by omega) (by omega) (hx K L)))
   have k17':=fun K L Q => @KW_of ftG8 _ _ _ Q _ _ (callL_sub ftG8_sub (s17 f' h' (by omega) (by omega) (hx K L)))
   have k11:=fun K L Q => @KW_of ftG8 _ _ _ Q _ _ (callL_sub ftG8_sub (s11 f h f' h' (by omega) (by omega) (hx K L)))
   have k13:=fun K L Q => @KW_of ftG8 _ _ _ Q _ _ (callL_sub ftG8_sub (s13 f h f' h' (by omega) (by omega) (hx K L)))
   have k11s:=fun K L Q => @KW_of ftG8 _ _ _ Q _ _ (callL_sub ftG8_sub (s11 f h f h (by omega) (by omega) (hx K L)))
   rw [sameM_self,sameM_self] at k11s
   have v8 : pureV ftG8 (.fn (.func 8) [] []) [] = some (false,[]):=rfl
   have v17 : ∀ a b,pureV ftG8 (.fn (.func 17) [] []) [.agg [encR a,encR b]] = some (false,[]):=fun _ _ => rfl
   have v11 : ∀ a b c d,pureV ftG8 (.fn (.func 11) [] []) [.agg [encR a,encR b],.agg [encR c,encR d]] = some (false,[]):=fun _ _ _ _ => rfl
   have v13 : ∀ a b c d,pureV ftG8 (.fn (.func 13) [] []) [.agg [encR a,encR b],.agg [encR c,encR d]] = some (false,[]):=fun _ _ _ _ => rfl
   cases e3 : (sameM f f' && sameM h h') <;>
   ·rw [e3] at k11 k13
    simp only [boolA,Bool.and_self] at k15 k15' k17 k17' k11 k13 k11s
    simp only [↓vp,vz,Nat.reduceLT,Nat.reduceEqDiff,Nat.reduceLeDiff,Nat.reduceAdd,Nat.reduceSub,Nat.reduceMul,Int.reduceBEq,Int.reduceBNe,Int.reduceLT,Int.reduceLE,Int.reduceEq,reduceIte,reduceCtorEq,da,int,boolA,rt,dr,k15,k15',k8,k17,k17',k11,k13,k11s,v8,v17,v11,v13]
theorem s5 (f h f' h' : List RunM) (l1 : f.length ≤ 100000000000000) (l2 : h.length ≤ 100000000000000) (l3 : f'.length ≤ 100000000000000) (l4 : h'.length ≤ 100000000000000) (H : Heap) :
  callL ftG5 (.fn (.func 5) [] []) [.agg [encR f,encR h],.agg [encR f',encR h']] H = some (boolA true,H):=call_p (as':=[.agg [encR f,encR h],.agg [encR f',encR h']]) rfl rfl (by simp) (AW_sub ftG5_sub (c5_body f h f' h' l1 l2 l3 l4))
end Go.VI
namespace Go.VI
theorem fc5 : compF Go.Proofs.Tryz.prog 5 = some (33,r5,c5):=by kernel_rfl
theorem fn5 : (Go.Proofs.Tryz.prog.funcs[5]?).all (fun fn => !(fn.name == "runtime.NumGoroutine")) = true:=by kernel_rfl
theorem ftG5_ok : FTOk Go.Proofs.Tryz.prog ftG5:=by
 intro k d h
 unfold ftG5 at h
 split at h
 ·cases h; exact go_ok fc5 fn5
 ·exact ftG8_ok _ _ h
end Go.VI
