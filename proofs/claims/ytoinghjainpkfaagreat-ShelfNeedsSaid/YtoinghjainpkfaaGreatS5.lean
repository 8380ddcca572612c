import Derived.Test.YtoinghjainpkfaaGreatS4
/- What the claim hangs on, part 5: PE PF PH PJ PP PQ PR VXR WA WB WC WD WE WF WG WH WI. -/
set_option linter.unusedVariables false
set_option linter.unusedSimpArgs false
set_option maxRecDepth 100000
namespace Go.VI
attribute [local congr] AW_congr OW_congr DW_congr NW_congr VW_congr GW_congr PW_congr KW_congr ite_congr' GV_congr CV_congr
theorem cells_row {H : Heap} {id i off n : Nat} {fz : Bool} {sz : Nat} {rs : List (List AV)} {r : List AV} (hg : H.get id = some (.row fz sz rs)) (hr : rs[i]? = some r) : cellsAt H (.ptr id i off) n = if off + n ≤ r.length then some ((r.drop off).take n) else none:=by
 simp only [cellsAt,hg,hr]
theorem ia_row {H : Heap} {id len sz i : Nat} {fz : Bool} {rs : List (List AV)} (hg : H.get id = some (.row fz sz rs)) (hi : i < len) : iaddrA H none sz (.sl id 0 len) (i : Int) = some (.ptr id i 0):=by
 have hr : rowSz H id = some sz:=by unfold rowSz; rw [hg]
 show (if 0 ≤ (i : Int) ∧ (i : Int) < (len : Int) ∧ rowSz H id = some sz then some (AV.ptr id (0 + (i : Int).toNat) 0) else none) = _
 rw [if_pos ⟨by omega,by omega,hr⟩]
 simp
theorem ia_rr {H : Heap} {id i : Nat} {fz : Bool} {l : List RunM} (hg : H.get id = some (.row fz 2 (l.map runC))) (hi : i < l.length) : iaddrA H none 2 (.sl id 0 l.length) (i : Int) = some (.ptr id i 0):=ia_row hg hi
theorem c_rr {H : Heap} {id i off n : Nat} {fz : Bool} {l : List RunM} (hg : H.get id = some (.row fz 2 (l.map runC))) (hi : i < l.length) : cellsAt H (.ptr id i off) n = if off + n ≤ 2 then some (((runC l[i]).drop off).take n) else none:=by
 rw [cells_row hg (r:=runC l[i]) (by rw [List.getElem?_map,List.getElem?_eq_getElem hi]; rfl)]
 rfl
theorem len_rep {K H : Heap} {sz : Nat} {S : AV} {rows : List (List AV)} (h : Rep K sz S rows) : lenV H 0 S = some (.sc (.int .i64 (rows.length : Int)),H):=by
 rcases h with ⟨rfl,rfl⟩ | ⟨id,rfl,_⟩ <;> rfl
def mxM (a b : Int) : Int:=if b > a then b else a
def joinS (acc : List RunM) (x : RunM) : List RunM :=
 match acc.getLast? with
 | none => [x]
 | some y => if x.1 > endM y then acc ++ [x] else acc.set (acc.length - 1) (y.1,mxM (endM y) (endM x) - y.1)
theorem joinS_nil (x : RunM) : joinS [] x = [] ++ [x]:=rfl
theorem joinS_some {acc : List RunM} {x : RunM} {m : Nat} (h : acc.length = m + 1) : joinS acc x = if x.1 > endM (acc[m]'(by omega)) then acc ++ [x] else acc.set m ((acc[m]'(by omega)).1,mxM (endM (acc[m]'(by omega))) (endM x) - (acc[m]'(by omega)).1):=by
 have e : acc.length - 1 = m:=by omega
 unfold joinS
 rw [List.getLast?_eq_getElem?,e,List.getElem?_eq_getElem (by omega)]
theorem joinS_may {acc : List RunM} {x : RunM} (h : ∀ y ∈ acc,mayM y = true) (hx : mayM x = true) : ∀ y ∈ joinS acc x,mayM y = true:=by
 intro z hz
 rcases Nat.eq_zero_or_pos acc.length with h0 | h0
 ·obtain rfl : acc = []:=List.eq_nil_of_length_eq_zero h0
  rw [joinS_nil] at hz
  simp at hz
  rw [hz]; exact hx
 ·obtain ⟨m,hm⟩ : ∃ m,acc.length = m + 1:=⟨acc.length - 1,by omega⟩
  rw [joinS_some hm] at hz
  split at hz
  ·rcases List.mem_append.1 hz with hz | hz
   ·exact h z hz
   ·simp at hz
    rw [hz]; exact hx
  ·rcases List.mem_or_eq_of_mem_set hz with hz | rfl
   ·exact h z hz
   ·have h1:=mayM_iff.1 (h _ (List.getElem_mem (show m < acc.length by omega)))
    have h2:=mayM_iff.1 hx
    rw [mayM_iff]
    unfold mxM endM
    split <;> simp only <;> omega
theorem joinS_len (acc : List RunM) (x : RunM) : (joinS acc x).length ≤ acc.length + 1:=by
 rcases Nat.eq_zero_or_pos acc.length with h0 | h0
 ·obtain rfl : acc = []:=List.eq_nil_of_length_eq_zero h0
  simp [joinS_nil]
 ·obtain ⟨m,hm⟩ : ∃ m,acc.length = m + 1:=⟨acc.length - 1,by omega⟩
  rw [joinS_some hm]
  split <;> simp
theorem fold_take {s : List RunM} {i : Nat} (h : i < s.length) : (s.take (i + 1)).foldl joinS [] = joinS ((s.take i).foldl joinS []) s[i]:=by
 rw [List.take_succ_eq_append_getElem h,List.foldl_append]
 rfl
theorem fold_may {s : List RunM} (h : ∀ x ∈ s,mayM x = true) : ∀ (a : List RunM),(∀ x ∈ a,mayM x = true) → (∀ x ∈ s.foldl joinS a,mayM x = true) ∧ (s.foldl joinS a).length ≤ a.length + s.length:=by
 induction s with
 | nil => exact fun a ha => ⟨ha,by simp⟩
 | cons y s ih =>
  intro a ha
  have:=ih (fun x hx => h x (by simp [hx])) (joinS a y) (joinS_may ha (h y (by simp)))
  have hl:=joinS_len a y
  simp only [List.foldl_cons,List.length_cons]
  exact ⟨this.1,by omega⟩
theorem kill_keep {B : Nat} {K : Heap} {sz : Nat} {S : AV} {rows : List (List AV)} (h : RepB B K sz S rows) {j : Nat} {b : Blk} (hj : K.get j = some b) (hlt : j < B:=by omega) (L : List Blk:=[]) : (kill K S).get j = some b:=by
 rcases h with ⟨rfl,_⟩ | ⟨id,hb,rfl,_⟩
 ·exact hj
 ·show (K.set id .dead).get j = _
  rw [Heap.get_set_ne _ (by omega),hj]
theorem l57 (s : List RunM) (hs : s.length ≤ 1000000) (hm : ∀ x ∈ s, mayM x = true) (o : Nat) {Q : AExit → Env → Heap → Prop}
   (hex : ∀ f' K S, Rep K 2 S ((s.foldl joinS []).map runC) → f' 4 = S → Q (.exit 0) (mkE 57 f') (hx K [])) :
   ∀ (d i : Nat) (S : AV) (K : Heap) (f : Nat → AV), i + d = s.length → K.get o = some (.row false 2 (s.map runC)) → RepB (o + 1) K 2 S (((s.take i).foldl joinS []).map runC) → f 4 = S → f 12 = .sl o 0 s.length → f 13 = int s.length → f 14 = int i →
    AW ft (.loop c57L0) (mkE 57 f) (hx K []) Q := by
  intro d
  induction d with
  | zero =>
    intro i S K f hd ho hr h4 h12 h13 h14
    have g : ((i : Int) < s.length) = False := by simp; omega
    rw [AW_loop]
    unfold c57L0
    rw [List.take_of_length_le (by omega)] at hr
    simp only [↓vp, vz, Nat.reduceLT, Nat.reduceEqDiff, Nat.reduceLeDiff, Nat.reduceAdd, Nat.reduceSub, Nat.reduceMul, Int.reduceBEq, Int.reduceBNe, Int.reduceLT, Int.reduceLE, Int.reduceEq, reduceIte, reduceCtorEq, da, int, boolA, h13, h14, g]
    refine hex _ K S hr.rep ?_
    simp only [↓vp, vz, Nat.reduceLT, Nat.reduceEqDiff, Nat.reduceLeDiff, Nat.reduceAdd, Nat.reduceSub, Nat.reduceMul, Int.reduceBEq, Int.reduceBNe, Int.reduceLT, Int.reduceLE, Int.reduceEq, reduceIte, reduceCtorEq, da, int, boolA, h4]
  | succ d ih =>
    intro i S K f hd ho hr h4 h12 h13 h14
    have g1 : ((i : Int) < s.length) = True := by simp; omega
    have gi : i < s.length := by omega
    have w1 := wrap_succ (show i < 9223372036854775807 by omega)
    have hxm := hm s[i] (List.getElem_mem gi)
    obtain ⟨hfm, hfl⟩ := fold_may (s := s.take i) (fun x hx => hm x (List.mem_of_mem_take hx)) [] (by simp)
    have ht := fold_take gi
    generalize ha : (s.take i).foldl joinS [] = acc at hr hfm hfl ht
    have hal : acc.length ≤ 1000000 := by simp at hfl; omega
    have lo := Heap.get_lt ho
    have ia := fun L => ia_rr (H := hx K L) (get_old ho L) gi
    have ca := fun L off n => c_rr (H := hx K L) (off := off) (n := n) (get_old ho L) gi
    have ln := fun H => len_rep (H := H) hr.rep
    have ap := fun nid L => appA_rep (nid := nid) (bytes := 16) hr.rep (xs := [runC s[i]]) (by simp) rfl (by simp; omega) L
    rw [List.length_map] at ln ap
    simp only [runC, int, List.length_singleton] at ap
    rcases Nat.eq_zero_or_pos acc.length with h0 | h0
    · have g2 : (IntKind.i64.wrap ((acc.length : Int) - 1) < 0) = True := eq_true (by rw [wrap_i64 (by omega)]; omega)
      rw [AW_loop]
      unfold c57L0
      simp only [↓vp, vz, Nat.reduceLT, Nat.reduceEqDiff, Nat.reduceLeDiff, Nat.reduceAdd, Nat.reduceSub, Nat.reduceMul, Int.reduceBEq, Int.reduceBNe, Int.reduceLT, Int.reduceLE, Int.reduceEq, reduceIte, reduceCtorEq, da, int, boolA, dr, h4, h12, h13, h14, g1, ia, ca, runC, ln, g2, ap, kill_next, w1]
      rw [← hx_nil (hx _ _)]
      obtain rfl : acc = [] := List.eq_nil_of_length_eq_zero h0
      rw [joinS_nil] at ht
      refine ih (i + 1) (.sl (K.next + 2) 0 1) _ _ (by omega) ?_ (.inr ⟨K.next + 2, by omega, ?_, ?_⟩) ?_ ?_ ?_ ?_
      · exact get_old (kill_keep hr ho) _
      · rw [ht]
        rfl
      · rw [ht]
        simp only [↓vp, vz, Nat.reduceLT, Nat.reduceEqDiff, Nat.reduceLeDiff, Nat.reduceAdd, Nat.reduceSub, Nat.reduceMul, Int.reduceBEq, Int.reduceBNe, Int.reduceLT, Int.reduceLE, Int.reduceEq, reduceIte, reduceCtorEq, kill_next]
        rfl
      all_goals simp only [↓vp, vz, Nat.reduceLT, Nat.reduceEqDiff, Nat.reduceLeDiff, Nat.reduceAdd, Nat.reduceSub, Nat.reduceMul, Int.reduceBEq, Int.reduceBNe, Int.reduceLT, Int.reduceLE, Int.reduceEq, reduceIte, reduceCtorEq, da, int, boolA, h12, h13]
    · obtain ⟨m, hm1⟩ : ∃ m, acc.length = m + 1 := ⟨acc.length - 1, by omega⟩
      have gm : m < acc.length := by omega
      obtain ⟨id, hid, hS, hg⟩ : ∃ id, o + 1 ≤ id ∧ S = .sl id 0 acc.length ∧ K.get id = some (.row false 2 (acc.map runC)) := by
        rcases hr with ⟨_, h⟩ | ⟨id, h1, h2, h3⟩
        · rw [List.map_eq_nil_iff] at h
          rw [h] at h0
          simp at h0
        · rw [List.length_map] at h2
          exact ⟨id, h1, h2, h3⟩
      have lid := Heap.get_lt hg
      have e1 : IntKind.i64.wrap ((acc.length : Int) - 1) = (m : Int) := by rw [wrap_i64 (by omega)]; omega
      have g2 : ((m : Int) < 0) = False := eq_false (by omega)
      have ib : ∀ L, iaddrA (hx K L) none 2 S (m : Int) = some (.ptr id m 0) := fun L => by rw [hS]; exact ia_rr (H := hx K L) (get_old hg L) gm
      have cb := fun L off n => c_rr (H := hx K L) (off := off) (n := n) (get_old hg L) gm
      have hym := hfm acc[m] (List.getElem_mem gm)
      have by1 := mayM_iff.1 hym
      have bx1 := mayM_iff.1 hxm
      have ke := fun K L Q => @k97 acc[m] (may_end hym) K L Q
      have kx := fun K L Q => @k97 s[i] (may_end hxm) K L Q
      have pe := p97 acc[m]
      have px := p97 s[i]
      simp only [runC, int] at ke kx pe px
      have hj := joinS_some (x := s[i]) hm1
      rw [AW_loop]
      unfold c57L0
      by_cases c1 : s[i].1 > endM acc[m]
      · rw [if_pos c1] at hj
        simp only [↓vp, vz, Nat.reduceLT, Nat.reduceEqDiff, Nat.reduceLeDiff, Nat.reduceAdd, Nat.reduceSub, Nat.reduceMul, Int.reduceBEq, Int.reduceBNe, Int.reduceLT, Int.reduceLE, Int.reduceEq, reduceIte, reduceCtorEq, da, int, boolA, dr, h4, h12, h13, h14, g1, ia, ca, runC, ln, e1, g2, ib, cb, ke, pe, eq_true c1, ap, kill_next, w1]
        rw [← hx_nil (hx _ _)]
        refine ih (i + 1) (.sl (K.next + 2) 0 (acc.length + 1)) _ _ (by omega) ?_ (.inr ⟨K.next + 2, by omega, ?_, ?_⟩) ?_ ?_ ?_ ?_
        · exact get_old (kill_keep hr ho) _
        · rw [ht, hj]
          simp
        · rw [ht, hj]
          simp only [↓vp, vz, Nat.reduceLT, Nat.reduceEqDiff, Nat.reduceLeDiff, Nat.reduceAdd, Nat.reduceSub, Nat.reduceMul, Int.reduceBEq, Int.reduceBNe, Int.reduceLT, Int.reduceLE, Int.reduceEq, reduceIte, reduceCtorEq, kill_next, List.map_append]
          rfl
        all_goals simp only [↓vp, vz, Nat.reduceLT, Nat.reduceEqDiff, Nat.reduceLeDiff, Nat.reduceAdd, Nat.reduceSub, Nat.reduceMul, Int.reduceBEq, Int.reduceBNe, Int.reduceLT, Int.reduceLE, Int.reduceEq, reduceIte, reduceCtorEq, da, int, boolA, h12, h13]
      · rw [if_neg c1] at hj
        have gg := fun L => get_old (L := L) hg
        have gs : ∀ L b, (hx K L).set id b = hx (K.set id b) L := fun L b => hx_set_old K L b id lid
        have rm : (acc.map runC)[m]? = some [.sc (.int .i64 acc[m].1), .sc (.int .i64 acc[m].2)] := by rw [List.getElem?_map, List.getElem?_eq_getElem gm]; rfl
        have wm : IntKind.i64.wrap ((if endM acc[m] < endM s[i] then endM s[i] else endM acc[m]) - acc[m].1) = mxM (endM acc[m]) (endM s[i]) - acc[m].1 := by
          unfold mxM endM
          exact wrap_i64 (by split <;> omega)
        simp only [↓vp, vz, Nat.reduceLT, Nat.reduceEqDiff, Nat.reduceLeDiff, Nat.reduceAdd, Nat.reduceSub, Nat.reduceMul, Int.reduceBEq, Int.reduceBNe, Int.reduceLT, Int.reduceLE, Int.reduceEq, reduceIte, reduceCtorEq, da, int, boolA, dr, h4, h12, h13, h14, g1, ia, ca, runC, ln, e1, g2, ib, cb, ke, kx, pe, px, eq_false c1, w1, gg, rm, wm, gs]
        have hshape : (acc.map runC).set m [.sc (.int .i64 acc[m].1), .sc (.int .i64 (mxM (endM acc[m]) (endM s[i]) - acc[m].1))] = (joinS acc s[i]).map runC := by
          rw [hj, List.map_set]
          rfl
        simp only [↓vp, vz, Nat.reduceLT, Nat.reduceEqDiff, Nat.reduceLeDiff, Nat.reduceAdd, Nat.reduceSub, Nat.reduceMul, Int.reduceBEq, Int.reduceBNe, Int.reduceLT, Int.reduceLE, Int.reduceEq, reduceIte, reduceCtorEq, da, int, boolA, dr, hS, hshape]
        rw [← hx_nil (hx (K.set _ _) _)]
        refine ih (i + 1) (.sl id 0 acc.length) (hx (K.set id (.row false 2 ((joinS acc s[i]).map runC))) [.box false (runC s[i])]) _ (by omega) ?_ (.inr ⟨id, hid, ?_, ?_⟩) ?_ ?_ ?_ ?_
        · refine get_old ?_ _
          rw [Heap.get_set_ne _ (by omega), ho]
        · rw [ht, List.length_map, hj, List.length_set]
        · rw [ht]
          refine get_old ?_ _
          rw [Heap.get_set_self _ lid]
        all_goals simp only [↓vp, vz, Nat.reduceLT, Nat.reduceEqDiff, Nat.reduceLeDiff, Nat.reduceAdd, Nat.reduceSub, Nat.reduceMul, Int.reduceBEq, Int.reduceBNe, Int.reduceLT, Int.reduceLE, Int.reduceEq, reduceIte, reduceCtorEq, da, int, boolA, h4, h12, h13, hS]
def srsM (l : List RunM) : List SR:=l.filterMap fun x => if h : 0 ≤ x.1 ∧ x.1 ≤ 1000000 then some ⟨x,h⟩ else none
noncomputable def sortR (l : List RunM) : List RunM:=(sortL (srsM l)).map (·.1)
theorem srsM_val : ∀ {l : List RunM},(∀ x ∈ l,mayM x = true) → (srsM l).map (·.1) = l
 | [],_ => rfl
 | x :: l,h => by
  have h1:=mayM_iff.1 (h x (by simp))
  have h2:=srsM_val (l:=l) fun y hy => h y (by simp [hy])
  have h3 : 0 ≤ x.1 ∧ x.1 ≤ 1000000:=by omega
  unfold srsM at h2 ⊢
  rw [List.filterMap_cons,dif_pos h3]
  simp only [List.map_cons,h2]
theorem map_val (l : List SR) : l.map srC = (l.map (·.1)).map runC:=by
 rw [List.map_map]
 rfl
theorem sortR_perm {l : List RunM} (h : ∀ x ∈ l,mayM x = true) : (sortR l).Perm l:=by
 have:=(sortL_perm (srsM l)).map (·.1)
 rw [srsM_val h] at this
 exact this
theorem sortR_len {l : List RunM} (h : ∀ x ∈ l,mayM x = true) : (sortR l).length = l.length:=(sortR_perm h).length_eq
theorem sortR_may {l : List RunM} (h : ∀ x ∈ l,mayM x = true) : ∀ x ∈ sortR l,mayM x = true:=fun x hx => h x ((sortR_perm h).mem_iff.1 hx)
theorem sortR_sorted (l : List RunM) : (sortR l).Pairwise fun a b => a.1 ≤ b.1:=by
 rw [List.pairwise_iff_getElem]
 intro i j hi hj hij
 simp only [sortR,List.length_map] at hi hj
 have:=sortL_sorted (srsM l) i j hij hj
 simpa [sortR] using this
theorem ksort {l : List RunM} (hl : l.length ≤ 1000000) (hm : ∀ x ∈ l,mayM x = true) {Q : AV → Heap → Prop} :
  KW ft (.fn (.func 99) [] []) [.sl 1 0 l.length,.fn (.func 100) [] []] (hx Heap.empty [.dead,.row false 2 (l.map runC)]) Q ↔ Q (.tup []) (hx Heap.empty [.dead,.row false 2 ((sortR l).map runC)]):=by
 refine k_prim (p:=sortP 100) rfl ?_ ?_
 ·have e : l.map runC = (srsM l).map srC:=by rw [map_val,srsM_val hm]
  unfold sortP
  simp only [hxe_get',List.getElem?_cons_succ,List.getElem?_cons_zero,if_true]
  rw [if_pos ⟨by simp,hl⟩,e,srsOf_map,Option.map_some]
  simp only [hxe_set,List.set_cons_succ,List.set_cons_zero]
  rw [map_val]
  rfl
 ·rw [hxe_nx,hxe_nx]
  simp
theorem ksort0 {K : Heap} {L : List Blk} {Q : AV → Heap → Prop} : KW ft (.fn (.func 99) [] []) [.emp,.fn (.func 100) [] []] (hx K L) Q ↔ Q (.tup []) (hx K L):=by
 refine k_prim (p:=sortP 100) rfl ?_ (Nat.le_refl _)
 unfold sortP
 simp
theorem allR (l : List RunM) : allSz 2 (l.map runC) = true:=by simp [allSz,runC]
theorem k_eprim {T : FT} {k : Nat} {p : List AV → Nat → Option (AV × List Blk)} (hk : T k = some (.eprim p)) {args : List AV} {H : Heap} {L : List Blk} {r : AV} (h : p args H.next = some (r,L)) {Q : AV → Heap → Prop} : KW T (.fn (.func k) [] []) args H Q ↔ Q r ⟨H.bs ++ L⟩:=by
 refine KW_of ?_
 rw [callL_fn]
 unfold callF
 simp only [hk,List.nil_append,List.append_nil,h,Option.map_some]
theorem kcloR {T : FT} (hT : T 56 = some (.eprim (ecloP 2 16))) {l : List RunM} (h0 : l ≠ []) (hb : l.length ≤ 1000000) {K : Heap} {L : List Blk} {Q : AV → Heap → Prop} : KW T (.fn (.func 56) [] []) [encR l] (hx K L) Q ↔ Q (.sl ((hx K L).next + 1) 0 l.length) (hx K (L ++ [.dead,.row false 2 (l.map runC)])):=by
 rw [← hx_hx]
 refine k_eprim hT ?_
 cases l with
 | nil => exact absurd rfl h0
 | cons x xs =>
  show (if ((x :: xs).map runC).length * 16 ≤ 140737488355328 ∧ allSz 2 ((x :: xs).map runC) = true then some (AV.sl ((hx K L).next + 1) 0 ((x :: xs).map runC).length,[Blk.dead,Blk.row false 2 ((x :: xs).map runC)]) else none) = _
  rw [if_pos ⟨by simp only [List.length_map]; omega,allR _⟩,List.length_map]
theorem kcloR0 {T : FT} (hT : T 56 = some (.eprim (ecloP 2 16))) {K : Heap} {L : List Blk} {Q : AV → Heap → Prop} : KW T (.fn (.func 56) [] []) [encR []] (hx K L) Q ↔ Q .emp (hx K (L ++ [.dead])):=by
 rw [← hx_hx]
 exact k_eprim hT rfl
noncomputable def joinM (l : List RunM) : List RunM:=(sortR l).foldl joinS []
theorem s57 (l : List RunM) (hl : l.length ≤ 1000000) (hm : ∀ x ∈ l,mayM x = true) {args : List AV} {H H1 : Heap} (hz : frzCells H args = some ([encR l],H1)) : callL ft (.fn (.func 57) [] []) args H = some (encR (joinM l),H1):=by
 refine call_p (as':=[encR l]) rfl (by simpa using hz) (by simp) ?_
 unfold c57 r57
 by_cases h0 : l = []
 ·subst h0
  have e : joinM [] = []:=by
   unfold joinM
   rw [List.eq_nil_of_length_eq_zero (by rw [sortR_len (by simp)]; rfl : (sortR []).length = 0)]
   rfl
  have kc:=fun K L Q => @kcloR0 ft rfl K L Q
  have ks:=fun K L Q => @ksort0 K L Q
  rw [e]
  simp only [↓vp,vz,Nat.reduceLT,Nat.reduceEqDiff,Nat.reduceLeDiff,Nat.reduceAdd,Nat.reduceSub,Nat.reduceMul,Int.reduceBEq,Int.reduceBNe,Int.reduceLT,Int.reduceLE,Int.reduceEq,reduceIte,reduceCtorEq,da,int,boolA,dr,kc,vemp,ks]
  rw [AW_loop]
  unfold c57L0
  simp only [↓vp,vz,Nat.reduceLT,Nat.reduceEqDiff,Nat.reduceLeDiff,Nat.reduceAdd,Nat.reduceSub,Nat.reduceMul,Int.reduceBEq,Int.reduceBNe,Int.reduceLT,Int.reduceLE,Int.reduceEq,reduceIte,reduceCtorEq,da,int,boolA,dr,kc,vemp,ks]
  unfold c57R1
  simp only [↓vp,vz,Nat.reduceLT,Nat.reduceEqDiff,Nat.reduceLeDiff,Nat.reduceAdd,Nat.reduceSub,Nat.reduceMul,Int.reduceBEq,Int.reduceBNe,Int.reduceLT,Int.reduceLE,Int.reduceEq,reduceIte,reduceCtorEq,da,int,boolA,rt,dr,kc,vemp,ks]
  try rfl
 ·have kc:=fun K L Q => @kcloR ft rfl l h0 hl K L Q
  have ks:=fun Q => @ksort l hl hm Q
  have e:=sortR_len hm
  simp only [↓vp,vz,Nat.reduceLT,Nat.reduceEqDiff,Nat.reduceLeDiff,Nat.reduceAdd,Nat.reduceSub,Nat.reduceMul,Int.reduceBEq,Int.reduceBNe,Int.reduceLT,Int.reduceLE,Int.reduceEq,reduceIte,reduceCtorEq,da,int,boolA,dr,kc,vemp,ks,List.length_nil,Nat.zero_add,List.nil_append]
  rw [← hx_nil (hx _ _)]
  refine l57 (sortR l) (by omega) (sortR_may hm) 1 (fun f' K S hr h4 => ?_) (sortR l).length 0 (.sc (.slice none 0 0)) _ _ (by simp) ?_ (.inl ⟨rfl,rfl⟩) ?_ ?_ ?_ ?_
  ·unfold c57R1
   obtain ⟨K',hz⟩:=frz_rep (L:=[]) (by rw [hx_nil]; exact hr) 23
   simp only [↓vp,vz,Nat.reduceLT,Nat.reduceEqDiff,Nat.reduceLeDiff,Nat.reduceAdd,Nat.reduceSub,Nat.reduceMul,Int.reduceBEq,Int.reduceBNe,Int.reduceLT,Int.reduceLE,Int.reduceEq,reduceIte,reduceCtorEq,h4]
   refine ret1 rfl (by decide) ?_
   simp only [↓vp,vz,Nat.reduceLT,Nat.reduceEqDiff,Nat.reduceLeDiff,Nat.reduceAdd,Nat.reduceSub,Nat.reduceMul,Int.reduceBEq,Int.reduceBNe,Int.reduceLT,Int.reduceLE,Int.reduceEq,reduceIte,reduceCtorEq]
   exact ⟨K',hz⟩
  ·rfl
  all_goals first | rfl | (simp only [↓vp,vz,Nat.reduceLT,Nat.reduceEqDiff,Nat.reduceLeDiff,Nat.reduceAdd,Nat.reduceSub,Nat.reduceMul,Int.reduceBEq,Int.reduceBNe,Int.reduceLT,Int.reduceLE,Int.reduceEq,reduceIte,reduceCtorEq,da,int,boolA,e]; done)
end Go.VI
namespace Go.VI
attribute [local congr] AW_congr OW_congr DW_congr NW_congr VW_congr GW_congr PW_congr KW_congr ite_congr' GV_congr CV_congr
theorem VW_appz {ft : FT} {e : Env} {H : Heap} {nid : Nat} {K : AV → Heap → Prop} (a b : Nat) (z : List AV) (x y : Operand) : VW ft nid e H (.appz a b z x y) K ↔ PW (opS nid e H (.appz a b z x y)) K:=Iff.rfl
theorem VW_cap {ft : FT} {e : Env} {H : Heap} {nid : Nat} {K : AV → Heap → Prop} (x : Operand) : VW ft nid e H (.cap x) K ↔ PW (opS nid e H (.cap x)) K:=Iff.rfl
theorem slice_sl0 {H : Heap} {id m sz : Nat} {rs : List (List AV)} (hg : H.get id = some (.row false sz rs)) (hm : m ≤ rs.length) : sliceA H sz (.sl id 0 m) none (some 0) none = some (.sl id 0 0):=by
 unfold sliceA boundsS
 simp [hg,hm]
theorem slice_nil0 (H : Heap) (sz : Nat) : sliceA H sz (.sc (.slice none 0 0)) none (some 0) none = some (.sc (.slice none 0 0)):=by
 unfold sliceA boundsA
 simp
theorem allSz_rep {sz n : Nat} {z : List AV} (h : z.length = sz) : allSz sz (List.replicate n z) = true:=by simp [allSz,h]
def singM (pages : List Int) : List RunM:=(pages.map fun p => ((p,1) : RunM)).filter mayM
theorem singM_may (l : List Int) : ∀ x ∈ singM l,mayM x = true:=fun x hx => (List.mem_filter.1 hx).2
theorem singM_len (l : List Int) : (singM l).length ≤ l.length:=by
 have:=List.length_filter_le mayM (l.map fun p => ((p,1) : RunM))
 simpa [singM] using this
theorem singM_take {l : List Int} {i : Nat} (h : i < l.length) : singM (l.take (i + 1)) = if mayM (l[i],1) then singM (l.take i) ++ [(l[i],1)] else singM (l.take i):=by
 unfold singM
 rw [List.take_succ_eq_append_getElem h,List.map_append,List.filter_append]
 cases e : mayM (l[i],1) <;> simp [e]
theorem l32 (l : List Int) (hl : l.length ≤ 1000000) {Q : AExit → Env → Heap → Prop}
   (hex : ∀ f' K S, Rep K 2 S ((singM l).map runC) → f' 3 = S → Q (.exit 0) (mkE 24 f') (hx K [])) :
   ∀ (d i : Nat) (S : AV) (K : Heap) (f : Nat → AV), i + d = l.length → Rep K 2 S ((singM (l.take i)).map runC) → f 3 = S → f 7 = encN l → f 8 = int l.length → f 9 = int i →
    AW ft (.loop c32L0) (mkE 24 f) (hx K []) Q := by
  intro d
  induction d with
  | zero =>
    intro i S K f hd hr h3 h7 h8 h9
    have g : ((i : Int) < l.length) = False := by simp; omega
    rw [AW_loop]
    unfold c32L0
    rw [List.take_of_length_le (by omega)] at hr
    simp only [↓vp, vz, Nat.reduceLT, Nat.reduceEqDiff, Nat.reduceLeDiff, Nat.reduceAdd, Nat.reduceSub, Nat.reduceMul, Int.reduceBEq, Int.reduceBNe, Int.reduceLT, Int.reduceLE, Int.reduceEq, reduceIte, reduceCtorEq, da, int, boolA, h8, h9, g]
    refine hex _ K S hr ?_
    simp only [↓vp, vz, Nat.reduceLT, Nat.reduceEqDiff, Nat.reduceLeDiff, Nat.reduceAdd, Nat.reduceSub, Nat.reduceMul, Int.reduceBEq, Int.reduceBNe, Int.reduceLT, Int.reduceLE, Int.reduceEq, reduceIte, reduceCtorEq, da, int, boolA, h3]
  | succ d ih =>
    intro i S K f hd hr h3 h7 h8 h9
    have g1 : ((i : Int) < l.length) = True := by simp; omega
    have gi : i < l.length := by omega
    have w1 := wrap_succ (show i < 9223372036854775807 by omega)
    have ht := singM_take gi
    have hlen : (singM (l.take i)).length ≤ 1000000 := by have := singM_len (l.take i); simp at this; omega
    have ap := fun nid L => appA_rep (nid := nid) (bytes := 16) hr (xs := [runC (l[i], 1)]) (by simp) rfl (by simp; omega) L
    have km := fun K L Q => @k53 (l[i], 1) K L Q
    rw [List.length_map] at ap
    simp only [runC, int, List.length_singleton] at ap km
    rw [AW_loop]
    unfold c32L0
    cases e : mayM (l[i], 1) with
    | true =>
      rw [e] at km
      rw [e, if_pos rfl] at ht
      simp only [↓vp, vz, Nat.reduceLT, Nat.reduceEqDiff, Nat.reduceLeDiff, Nat.reduceAdd, Nat.reduceSub, Nat.reduceMul, Int.reduceBEq, Int.reduceBNe, Int.reduceLT, Int.reduceLE, Int.reduceEq, reduceIte, reduceCtorEq, da, int, boolA, dr, h3, h7, h8, h9, g1, atN gi, cN gi, numC, km, ap, kill_next, w1]
      rw [← hx_nil (hx _ _)]
      refine ih (i + 1) (.sl (K.next + 2) 0 ((singM (l.take i)).length + 1)) _ _ (by omega) (.inr ⟨K.next + 2, ?_, ?_⟩) ?_ ?_ ?_ ?_
      · rw [ht]
        simp
      · rw [ht]
        simp only [↓vp, vz, Nat.reduceLT, Nat.reduceEqDiff, Nat.reduceLeDiff, Nat.reduceAdd, Nat.reduceSub, Nat.reduceMul, Int.reduceBEq, Int.reduceBNe, Int.reduceLT, Int.reduceLE, Int.reduceEq, reduceIte, reduceCtorEq, kill_next, List.map_append]
        rfl
      all_goals simp only [↓vp, vz, Nat.reduceLT, Nat.reduceEqDiff, Nat.reduceLeDiff, Nat.reduceAdd, Nat.reduceSub, Nat.reduceMul, Int.reduceBEq, Int.reduceBNe, Int.reduceLT, Int.reduceLE, Int.reduceEq, reduceIte, reduceCtorEq, da, int, boolA, h7, h8]
    | false =>
      rw [e] at km
      rw [e, if_neg (by simp)] at ht
      simp only [↓vp, vz, Nat.reduceLT, Nat.reduceEqDiff, Nat.reduceLeDiff, Nat.reduceAdd, Nat.reduceSub, Nat.reduceMul, Int.reduceBEq, Int.reduceBNe, Int.reduceLT, Int.reduceLE, Int.reduceEq, reduceIte, reduceCtorEq, da, int, boolA, dr, h3, h7, h8, h9, g1, atN gi, cN gi, numC, km, w1]
      rw [← hx_nil (hx _ _)]
      refine ih (i + 1) S _ _ (by omega) ?_ ?_ ?_ ?_ ?_
      · rw [ht]
        exact hr.mono fun id h => get_old h _
      all_goals simp only [↓vp, vz, Nat.reduceLT, Nat.reduceEqDiff, Nat.reduceLeDiff, Nat.reduceAdd, Nat.reduceSub, Nat.reduceMul, Int.reduceBEq, Int.reduceBNe, Int.reduceLT, Int.reduceLE, Int.reduceEq, reduceIte, reduceCtorEq, da, int, boolA, h3, h7, h8]
noncomputable def ofM (l : List Int) : List RunM:=joinM (singM l)
theorem s32 (l : List Int) (hl : l.length ≤ 1000000) (H : Heap) : callL ft (.fn (.func 32) [] []) [encN l] H = some (encR (ofM l),H):=by
 refine call_p (as':=[encN l]) rfl rfl (by simp) ?_
 unfold c32 r32
 simp only [↓vp,vz,Nat.reduceLT,Nat.reduceEqDiff,Nat.reduceLeDiff,Nat.reduceAdd,Nat.reduceSub,Nat.reduceMul,Int.reduceBEq,Int.reduceBNe,Int.reduceLT,Int.reduceLE,Int.reduceEq,reduceIte,reduceCtorEq,da,int,boolA,dr]
 rw [← hx_nil (Heap.empty)]
 refine l32 l hl (fun f' K S hr h3 => ?_) l.length 0 (.sc (.slice none 0 0)) _ _ (by simp) (.inl ⟨rfl,by simp [singM]⟩) ?_ ?_ ?_ ?_
 ·unfold c32R1
  obtain ⟨K',hz⟩:=frz_rep (L:=[]) (by rw [hx_nil]; exact hr) 22
  have hz2 : frzCells (hx K []) [S] = some ([encR (singM l)],K'):=by
   show frz.frzL 24 (hx K []) [S] = _
   simp only [frz.frzL,hz]
   rfl
  have kj:=fun Q => @KW_of ft _ _ _ Q _ _ (s57 (singM l) (by have:=singM_len l; omega) (singM_may l) hz2)
  simp only [↓vp,vz,Nat.reduceLT,Nat.reduceEqDiff,Nat.reduceLeDiff,Nat.reduceAdd,Nat.reduceSub,Nat.reduceMul,Int.reduceBEq,Int.reduceBNe,Int.reduceLT,Int.reduceLE,Int.reduceEq,reduceIte,reduceCtorEq,h3]
  rw [kj,← hx_nil K']
  simp only [↓vp,vz,Nat.reduceLT,Nat.reduceEqDiff,Nat.reduceLeDiff,Nat.reduceAdd,Nat.reduceSub,Nat.reduceMul,Int.reduceBEq,Int.reduceBNe,Int.reduceLT,Int.reduceLE,Int.reduceEq,reduceIte,reduceCtorEq,da,int,boolA,rt,dr]
  rfl
 all_goals first | rfl | (simp only [↓vp,vz,Nat.reduceLT,Nat.reduceEqDiff,Nat.reduceLeDiff,Nat.reduceAdd,Nat.reduceSub,Nat.reduceMul,Int.reduceBEq,Int.reduceBNe,Int.reduceLT,Int.reduceLE,Int.reduceEq,reduceIte,reduceCtorEq,da,int,boolA]; done)
theorem exFQ_ext (H H' : Heap) : exFQ true (.any H H') = .ext H.next H'.next:=rfl
theorem compat_el (n m : Nat) (w : Bool) (t : List Nat) : compat (.ext n m) (.loc w t) = t.all fun i => decide (i < n):=by
 cases t <;> simp [compat]
theorem all_nil' (p : Nat → Bool) : ([] : List Nat).all p = true:=rfl
theorem all_cons' (p : Nat → Bool) (a : Nat) (t : List Nat) : (a :: t).all p = (p a && t.all p):=rfl
def addB (l : List RunM) (x : RunM) : Bool:=mayM x && !decide (0 ≤ overI (cleanM l) x)
noncomputable def addM (l : List RunM) (x : RunM) : List RunM:=if addB l x then joinM (cleanM l ++ [x]) else cleanM l
theorem addB_may {l : List RunM} {x : RunM} (h : mayM x = true) : ∀ y ∈ cleanM l ++ [x],mayM y = true:=fun y hy => by
 rcases List.mem_append.1 hy with hy | hy
 ·exact clean_may l y hy
 ·simp at hy; rw [hy]; exact h
theorem s24 (l : List RunM) (hl : l.length ≤ 100000) (x : RunM) (H : Heap) : callL ftM (.fn (.func 24) [] []) [encR l,.agg (runC x)] H = some (.tup [encR (addM l x),boolA (addB l x)],H):=by
 refine call_p (as':=[encR l,.agg (runC x)]) rfl rfl (by simp) ?_
 unfold c24 r24
 have h1:=cleanM_len l
 have km:=fun K L Q => @kM_of _ _ Q _ _ _ (s53 x (hx K L))
 have kc:=fun K L Q => @kM_of _ _ Q _ _ _ (s55 l (by omega) (hx K L))
 have ko:=fun K L Q => @k54l (cleanM l) (by omega) x K L Q
 have k0:=fun K L Q => @kcloR0 ftM rfl K L Q
 simp only [runC,int] at km ko
 have p1 : ∀ args,pureV ftM (.fn (.func 56) [] []) args = none:=fun _ => rfl
 have p2 : ∀ args,pureV ftM (.tup [.fn (.func 56) [] []]) args = some (false,[]):=fun _ => rfl
 have p3 : ∀ id n,pureV ftM (.fn (.func 57) [] []) [.sl id 0 n] = some (true,[id]):=fun _ _ => rfl
 have sp : sidP [(0,.agg [.sc (.int .i64 x.1),.sc (.int .i64 x.2)])] = some []:=rfl
 by_cases h0 : cleanM l = []
 ·rw [h0] at kc ko
  by_cases hy : addB l x = true
  ·have hy':=hy
   unfold addB at hy'
   rw [h0,Bool.and_eq_true] at hy'
   have e2 : (0 ≤ overI [] x) = False:=eq_false (by simpa using hy'.2)
   rw [hy'.1] at km
   have em : addM l x = joinM ([] ++ [x]):=by unfold addM; rw [if_pos hy,h0]
   have hm:=addB_may (l:=[]) hy'.1
   have hc0 : cleanM [] = []:=rfl
   rw [hc0] at hm
   have kj:=fun Q => @kM_of _ _ Q _ _ _ (s57 ([] ++ [x]) (by simp) hm (args:=[.sl 2 0 1]) (H:=hx Heap.empty [.box false (runC x),.row false 2 [runC x],.row false 2 [runC x],.dead]) rfl)
   simp only [runC,int] at kj
   rw [em,hy]
   simp only [↓vp,vz,Nat.reduceLT,Nat.reduceEqDiff,Nat.reduceLeDiff,Nat.reduceAdd,Nat.reduceSub,Nat.reduceMul,Int.reduceBEq,Int.reduceBNe,Int.reduceLT,Int.reduceLE,Int.reduceEq,reduceIte,reduceCtorEq,da,int,boolA,rt,dr,runC,km,kc,ko,k0,e2,ge_iff_le,appA_emp,kj,p1,p2,p3,sp,mkFQ_n,exFQ_ext,compat_el,Option.isSome_some,all_cons',all_nil']
  ·have em : addM l x = []:=by unfold addM; rw [if_neg hy,h0]
   have ef : addB l x = false:=by simpa using hy
   rw [em,ef]
   unfold addB at ef
   rw [h0] at ef
   cases e : mayM x with
   | false =>
    rw [e] at km
    simp only [↓vp,vz,Nat.reduceLT,Nat.reduceEqDiff,Nat.reduceLeDiff,Nat.reduceAdd,Nat.reduceSub,Nat.reduceMul,Int.reduceBEq,Int.reduceBNe,Int.reduceLT,Int.reduceLE,Int.reduceEq,reduceIte,reduceCtorEq,da,int,boolA,rt,dr,runC,km,kc,ko,k0,ge_iff_le,vemp]
    rfl
   | true =>
    rw [e] at km ef
    have e2 : (0 ≤ overI [] x) = True:=eq_true (by simpa using ef)
    simp only [↓vp,vz,Nat.reduceLT,Nat.reduceEqDiff,Nat.reduceLeDiff,Nat.reduceAdd,Nat.reduceSub,Nat.reduceMul,Int.reduceBEq,Int.reduceBNe,Int.reduceLT,Int.reduceLE,Int.reduceEq,reduceIte,reduceCtorEq,da,int,boolA,rt,dr,runC,km,kc,ko,k0,e2,ge_iff_le,vemp]
    rfl
 ·have kn:=fun K L Q => @kcloR ftM rfl (cleanM l) h0 (by omega) K L Q
  by_cases hy : addB l x = true
  ·have hy':=hy
   unfold addB at hy'
   rw [Bool.and_eq_true] at hy'
   have e2 : (0 ≤ overI (cleanM l) x) = False:=eq_false (by simpa using hy'.2)
   rw [hy'.1] at km
   have em : addM l x = joinM (cleanM l ++ [x]):=by unfold addM; rw [if_pos hy]
   have hm:=addB_may (l:=l) hy'.1
   have d2 : (((cleanM l).length + 1) * 16 ≤ 140737488355328) = True:=eq_true (by omega)
   have d3 : ((cleanM l).length + 1 ≤ (cleanM l).length) = False:=eq_false (by omega)
   have tk : ((cleanM l).map runC).take (cleanM l).length = (cleanM l).map runC:=List.take_of_length_le (by simp)
   have hz : frzCells (hx Heap.empty [.box false (runC x),.row false 2 [runC x],.row false 2 ((cleanM l).map runC ++ [runC x]),.dead,.dead]) [.sl 2 0 ((cleanM l).length + 1)] = some ([encR (cleanM l ++ [x])],hx Heap.empty [.box false (runC x),.row false 2 [runC x],.row true 2 ((cleanM l).map runC ++ [runC x]),.dead,.dead]):=by
    have e : ((cleanM l).map runC ++ [runC x]).take ((cleanM l).length + 1) = (cleanM l ++ [x]).map runC:=by
     rw [List.take_of_length_le (by simp),List.map_append]
     rfl
    have e3 : (cleanM l).length + 1 ≤ ((cleanM l).map runC ++ [runC x]).length:=by simp
    show frz.frzL 24 _ _ = _
    simp only [frz.frzL,frz,hxe_get',List.getElem?_cons_succ,List.getElem?_cons_zero,Nat.zero_add,List.drop_zero,e,if_pos e3,hxe_set]
    rfl
   have kj:=fun Q => @kM_of _ _ Q _ _ _ (s57 (cleanM l ++ [x]) (by simp; omega) hm hz)
   simp only [runC,int] at kj
   rw [em,hy]
   simp only [↓vp,vz,Nat.reduceLT,Nat.reduceEqDiff,Nat.reduceLeDiff,Nat.reduceAdd,Nat.reduceSub,Nat.reduceMul,Int.reduceBEq,Int.reduceBNe,Int.reduceLT,Int.reduceLE,Int.reduceEq,reduceIte,reduceCtorEq,da,int,boolA,rt,dr,runC,km,kc,ko,kn,e2,ge_iff_le,kj,p1,p2,p3,sp,mkFQ_n,exFQ_ext,compat_el,Option.isSome_some,all_cons',all_nil',d2,d3,tk]
  ·have em : addM l x = cleanM l:=by unfold addM; rw [if_neg hy]
   have ef : addB l x = false:=by simpa using hy
   rw [em,ef]
   unfold addB at ef
   cases e : mayM x with
   | false =>
    rw [e] at km
    simp only [↓vp,vz,Nat.reduceLT,Nat.reduceEqDiff,Nat.reduceLeDiff,Nat.reduceAdd,Nat.reduceSub,Nat.reduceMul,Int.reduceBEq,Int.reduceBNe,Int.reduceLT,Int.reduceLE,Int.reduceEq,reduceIte,reduceCtorEq,da,int,boolA,rt,dr,runC,km,kc,ko,kn,ge_iff_le,vemp]
    rfl
   | true =>
    rw [e] at km ef
    have e2 : (0 ≤ overI (cleanM l) x) = True:=eq_true (by simpa using ef)
    simp only [↓vp,vz,Nat.reduceLT,Nat.reduceEqDiff,Nat.reduceLeDiff,Nat.reduceAdd,Nat.reduceSub,Nat.reduceMul,Int.reduceBEq,Int.reduceBNe,Int.reduceLT,Int.reduceLE,Int.reduceEq,reduceIte,reduceCtorEq,da,int,boolA,rt,dr,runC,km,kc,ko,kn,e2,ge_iff_le,vemp]
    rfl
def meetF (b : List RunM) : AV:=.fn (.func 103) [] [.pim [[encR b]] 0 0]
theorem s103 (b : List RunM) (hb : b.length ≤ 2000000) (y : RunM) (H : Heap) : callL ftM (meetF b) [.agg (runC y)] H = some (boolA (decide (0 ≤ overI b y)),H):=by
 refine call_p (as':=[.agg (runC y),.pim [[encR b]] 0 0]) rfl rfl (by simp) ?_
 unfold c103 r103
 have cp : ∀ H,cellsAt H (.pim [[encR b]] 0 0) 1 = some [encR b]:=fun _ => rfl
 have ko:=fun K L Q => @k54l b hb y K L Q
 simp only [runC,int] at ko
 simp only [↓vp,vz,Nat.reduceLT,Nat.reduceEqDiff,Nat.reduceLeDiff,Nat.reduceAdd,Nat.reduceSub,Nat.reduceMul,Int.reduceBEq,Int.reduceBNe,Int.reduceLT,Int.reduceLE,Int.reduceEq,reduceIte,reduceCtorEq,da,int,boolA,rt,dr,runC,cp,ko]
def meetM (a b : List RunM) : Bool:=(cleanM a).any fun y => decide (0 ≤ overI (cleanM b) y)
theorem s59 (a b : List RunM) (ha : a.length ≤ 2000000) (hb : b.length ≤ 2000000) (H : Heap) : callL ftM (.fn (.func 59) [] []) [encR a,encR b] H = some (boolA (meetM a b),H):=by
 refine call_p (as':=[encR a,encR b]) rfl rfl (by simp) ?_
 unfold c59 r59 meetM
 have h1:=cleanM_len a
 have h2:=cleanM_len b
 have ka:=fun K L Q => @kM_of _ _ Q _ _ _ (s55 a ha (hx K L))
 have kb:=fun K L Q => @kM_of _ _ Q _ _ _ (s55 b hb (hx K L))
 have kk:=fun Q => @KW_of ftM _ _ _ Q _ _ (s102 (T:=ftM) rfl rfl (cleanM a) (by omega) (meetF (cleanM b)) (fun _ => rfl) (fun y => decide (0 ≤ overI (cleanM b) y)) (fun y _ K L Q => KW_of (s103 (cleanM b) (by omega) y _))
  (args:=[encR (cleanM a),.fn (.func 103) [] [.ptr 0 0 0]]) (H:=hx Heap.empty [.box false [encR (cleanM b)]]) (H1:=hx Heap.empty [.box true [encR (cleanM b)]]) rfl)
 simp only [↓vp,vz,Nat.reduceLT,Nat.reduceEqDiff,Nat.reduceLeDiff,Nat.reduceAdd,Nat.reduceSub,Nat.reduceMul,Int.reduceBEq,Int.reduceBNe,Int.reduceLT,Int.reduceLE,Int.reduceEq,reduceIte,reduceCtorEq,da,int,boolA,rt,dr,ka,kb,kk]
end Go.VI
namespace Go.VI
attribute [local congr] AW_congr OW_congr DW_congr NW_congr VW_congr GW_congr PW_congr KW_congr ite_congr' GV_congr CV_congr
def pgs (x : RunM) (n : Nat) : List Int:=(List.range n).map fun (k : Nat) => x.1 + (k : Int)
def pgsL (l : List RunM) : List Int:=l.flatMap fun x => pgs x x.2.toNat
def pagesM (l : List RunM) : List Int:=pgsL (cleanM l)
theorem pgs_len (x : RunM) (n : Nat) : (pgs x n).length = n:=by simp [pgs]
theorem pgs_succ (x : RunM) (n : Nat) : pgs x (n + 1) = pgs x n ++ [x.1 + (n : Int)]:=by simp [pgs,List.range_succ]
theorem pgsL_take {l : List RunM} {i : Nat} (h : i < l.length) : pgsL (l.take (i + 1)) = pgsL (l.take i) ++ pgs l[i] l[i].2.toNat:=by
 unfold pgsL
 rw [List.take_succ_eq_append_getElem h,List.flatMap_append]
 simp
theorem pgsL_len : ∀ {l : List RunM},(∀ x ∈ l,mayM x = true) → (pgsL l).length ≤ 32768 * l.length
 | [],_ => by simp [pgsL]
 | x :: l,h => by
  have h1:=mayM_iff.1 (h x (by simp))
  have h2:=pgsL_len (l:=l) fun y hy => h y (by simp [hy])
  unfold pgsL at h2 ⊢
  rw [List.flatMap_cons,List.length_append,pgs_len,List.length_cons]
  omega
theorem l85a (x : RunM) (hx0 : mayM x = true) (pre : List Int) (hp : pre.length ≤ 32768000000) (b : Nat) (A B C : AV) {Q : AExit → Env → Heap → Prop}
   (hex : ∀ f' K S, Rep K 1 S ((pre ++ pgs x x.2.toNat).map numC) → f' 3 = S → f' 8 = A → f' 9 = B → f' 10 = C → Q (.exit 2) (mkE 29 f') (hx K [])) :
   ∀ (d i : Nat) (S : AV) (K : Heap) (f : Nat → AV), i + d = x.2.toNat → Rep K 1 S ((pre ++ pgs x i).map numC) → K.get b = some (.box false (runC x)) → f 3 = S → f 5 = .ptr b 0 0 → f 8 = A → f 9 = B → f 10 = C → f 15 = int x.2 → f 16 = int i →
    AW ft (.loop c85L0) (mkE 29 f) (hx K []) Q := by
  intro d
  have bx := mayM_iff.1 hx0
  induction d with
  | zero =>
    intro i S K f hd hr hb h3 h5 h8 h9 h10 h15 h16
    have g : ((i : Int) < x.2) = False := by simp; omega
    rw [AW_loop]
    unfold c85L0
    have e : i = x.2.toNat := by omega
    rw [e] at hr
    simp only [↓vp, vz, Nat.reduceLT, Nat.reduceEqDiff, Nat.reduceLeDiff, Nat.reduceAdd, Nat.reduceSub, Nat.reduceMul, Int.reduceBEq, Int.reduceBNe, Int.reduceLT, Int.reduceLE, Int.reduceEq, reduceIte, reduceCtorEq, da, int, boolA, h15, h16, g]
    refine hex _ K S hr ?_ ?_ ?_ ?_ <;> simp only [↓vp, vz, Nat.reduceLT, Nat.reduceEqDiff, Nat.reduceLeDiff, Nat.reduceAdd, Nat.reduceSub, Nat.reduceMul, Int.reduceBEq, Int.reduceBNe, Int.reduceLT, Int.reduceLE, Int.reduceEq, reduceIte, reduceCtorEq, da, int, boolA, h3, h8, h9, h10]
  | succ d ih =>
    intro i S K f hd hr hb h3 h5 h8 h9 h10 h15 h16
    have g1 : ((i : Int) < x.2) = True := by simp; omega
    have w1 := wrap_succ (show i < 9223372036854775807 by omega)
    have w2 : IntKind.i64.wrap (x.1 + (i : Int)) = x.1 + i := wrap_i64 (by omega)
    have gb := fun L => get_old (L := L) hb
    have hlen : ((pre ++ pgs x i).map numC).length = pre.length + i := by rw [List.length_map, List.length_append, pgs_len]
    have lb := Heap.get_lt hb
    have ap := fun nid L => appA_rep (nid := nid) (bytes := 8) hr (xs := [numC (x.1 + i)]) (by simp) rfl (by rw [hlen]; simp; omega) L
    rw [hlen] at ap
    simp only [numC, int, List.length_singleton] at ap
    have ht : (pre ++ pgs x (i + 1)).map numC = (pre ++ pgs x i).map numC ++ [numC (x.1 + i)] := by
      rw [pgs_succ, ← List.append_assoc, List.map_append (l₁ := pre ++ pgs x i)]
      rfl
    simp only [runC, int] at gb
    rw [AW_loop]
    unfold c85L0
    simp only [↓vp, vz, Nat.reduceLT, Nat.reduceEqDiff, Nat.reduceLeDiff, Nat.reduceAdd, Nat.reduceSub, Nat.reduceMul, Int.reduceBEq, Int.reduceBNe, Int.reduceLT, Int.reduceLE, Int.reduceEq, reduceIte, reduceCtorEq, da, int, boolA, dr, h3, h5, h15, h16, g1, gb, w1, w2, ap, kill_next]
    rw [← hx_nil (hx _ _)]
    refine ih (i + 1) (.sl (K.next + 1) 0 (pre.length + i + 1)) _ _ (by omega) (.inr ⟨K.next + 1, ?_, ?_⟩) (kill_old hr hb (by simp) _) ?_ ?_ ?_ ?_ ?_ ?_ ?_
    · rw [ht, List.length_append, hlen]
      rfl
    · rw [ht]
      simp only [↓vp, vz, Nat.reduceLT, Nat.reduceEqDiff, Nat.reduceLeDiff, Nat.reduceAdd, Nat.reduceSub, Nat.reduceMul, Int.reduceBEq, Int.reduceBNe, Int.reduceLT, Int.reduceLE, Int.reduceEq, reduceIte, reduceCtorEq, kill_next]
      rfl
    all_goals simp only [↓vp, vz, Nat.reduceLT, Nat.reduceEqDiff, Nat.reduceLeDiff, Nat.reduceAdd, Nat.reduceSub, Nat.reduceMul, Int.reduceBEq, Int.reduceBNe, Int.reduceLT, Int.reduceLE, Int.reduceEq, reduceIte, reduceCtorEq, da, int, boolA, h5, h8, h9, h10, h15]
theorem l85 (c : List RunM) (hl : c.length ≤ 1000) (hm : ∀ x ∈ c, mayM x = true) {Q : AExit → Env → Heap → Prop}
   (hex : ∀ f' K S, Rep K 1 S ((pgsL c).map numC) → f' 3 = S → Q (.exit 0) (mkE 29 f') (hx K [])) :
   ∀ (d i : Nat) (S : AV) (K : Heap) (f : Nat → AV), i + d = c.length → Rep K 1 S ((pgsL (c.take i)).map numC) → f 3 = S → f 8 = encR c → f 9 = int c.length → f 10 = int i →
    AW ft (.loop c85L2) (mkE 29 f) (hx K []) Q := by
  intro d
  induction d with
  | zero =>
    intro i S K f hd hr h3 h8 h9 h10
    have g : ((i : Int) < c.length) = False := by simp; omega
    rw [AW_loop]
    unfold c85L2
    rw [List.take_of_length_le (by omega)] at hr
    simp only [↓vp, vz, Nat.reduceLT, Nat.reduceEqDiff, Nat.reduceLeDiff, Nat.reduceAdd, Nat.reduceSub, Nat.reduceMul, Int.reduceBEq, Int.reduceBNe, Int.reduceLT, Int.reduceLE, Int.reduceEq, reduceIte, reduceCtorEq, da, int, boolA, h9, h10, g]
    refine hex _ K S hr ?_
    simp only [↓vp, vz, Nat.reduceLT, Nat.reduceEqDiff, Nat.reduceLeDiff, Nat.reduceAdd, Nat.reduceSub, Nat.reduceMul, Int.reduceBEq, Int.reduceBNe, Int.reduceLT, Int.reduceLE, Int.reduceEq, reduceIte, reduceCtorEq, da, int, boolA, h3]
  | succ d ih =>
    intro i S K f hd hr h3 h8 h9 h10
    have g1 : ((i : Int) < c.length) = True := by simp; omega
    have gi : i < c.length := by omega
    have w1 := wrap_succ (show i < 9223372036854775807 by omega)
    have ht := pgsL_take gi
    have hpl := pgsL_len (l := c.take i) fun x hx => hm x (List.mem_of_mem_take hx)
    have hpl2 : (c.take i).length ≤ 1000 := by simp; omega
    rw [AW_loop]
    unfold c85L2
    simp only [↓vp, vz, Nat.reduceLT, Nat.reduceEqDiff, Nat.reduceLeDiff, Nat.reduceAdd, Nat.reduceSub, Nat.reduceMul, Int.reduceBEq, Int.reduceBNe, Int.reduceLT, Int.reduceLE, Int.reduceEq, reduceIte, reduceCtorEq, da, int, boolA, dr, h3, h8, h9, h10, g1, atR gi, cR gi, runC]
    rw [← hx_nil (hx _ _)]
    refine l85a c[i] (hm _ (List.getElem_mem gi)) (pgsL (c.take i)) (by omega) K.next (encR c) (int c.length) (int i) (fun f' K' S' hr' q3 q8 q9 q10 => ?_) c[i].2.toNat 0 S _ _ (by simp) ?_ ?_ ?_ ?_ ?_ ?_ ?_ ?_ ?_
    · rw [← ht] at hr'
      unfold c85R1
      simp only [↓vp, vz, Nat.reduceLT, Nat.reduceEqDiff, Nat.reduceLeDiff, Nat.reduceAdd, Nat.reduceSub, Nat.reduceMul, Int.reduceBEq, Int.reduceBNe, Int.reduceLT, Int.reduceLE, Int.reduceEq, reduceIte, reduceCtorEq, da, int, boolA, q10, w1]
      refine ih (i + 1) S' K' _ (by omega) hr' ?_ ?_ ?_ ?_ <;> simp only [↓vp, vz, Nat.reduceLT, Nat.reduceEqDiff, Nat.reduceLeDiff, Nat.reduceAdd, Nat.reduceSub, Nat.reduceMul, Int.reduceBEq, Int.reduceBNe, Int.reduceLT, Int.reduceLE, Int.reduceEq, reduceIte, reduceCtorEq, da, int, boolA, q3, q8, q9]
    · have e : pgsL (c.take i) ++ pgs c[i] 0 = pgsL (c.take i) := by simp [pgs]
      rw [e]
      exact hr.mono fun id h => get_old h _
    · rw [hx_get0]
      rfl
    all_goals simp only [↓vp, vz, Nat.reduceLT, Nat.reduceEqDiff, Nat.reduceLeDiff, Nat.reduceAdd, Nat.reduceSub, Nat.reduceMul, Int.reduceBEq, Int.reduceBNe, Int.reduceLT, Int.reduceLE, Int.reduceEq, reduceIte, reduceCtorEq, da, int, boolA, h3, h8, h9, h10, Int.natCast_zero]
theorem s85 (l : List RunM) (hl : l.length ≤ 1000) (H : Heap) : callL ft (.fn (.func 85) [] []) [encR l] H = some (encN (pagesM l),H):=by
 refine call_p (as':=[encR l]) rfl rfl (by simp) ?_
 unfold c85 r85
 have kc:=fun K L Q => @k55 l (by omega) K L Q
 have h1:=cleanM_len l
 simp only [↓vp,vz,Nat.reduceLT,Nat.reduceEqDiff,Nat.reduceLeDiff,Nat.reduceAdd,Nat.reduceSub,Nat.reduceMul,Int.reduceBEq,Int.reduceBNe,Int.reduceLT,Int.reduceLE,Int.reduceEq,reduceIte,reduceCtorEq,da,int,boolA,dr,kc]
 rw [← hx_nil (Heap.empty)]
 refine l85 (cleanM l) (by omega) (clean_may l) (fun f' K S hr h3 => ?_) (cleanM l).length 0 (.sc (.slice none 0 0)) _ _ (by simp) (.inl ⟨rfl,rfl⟩) ?_ ?_ ?_ ?_
 ·unfold c85R3
  obtain ⟨K',hz⟩:=frz_rep (L:=[]) (by rw [hx_nil]; exact hr) 23
  simp only [↓vp,vz,Nat.reduceLT,Nat.reduceEqDiff,Nat.reduceLeDiff,Nat.reduceAdd,Nat.reduceSub,Nat.reduceMul,Int.reduceBEq,Int.reduceBNe,Int.reduceLT,Int.reduceLE,Int.reduceEq,reduceIte,reduceCtorEq,h3]
  refine ret1 rfl (by decide) ?_
  simp only [↓vp,vz,Nat.reduceLT,Nat.reduceEqDiff,Nat.reduceLeDiff,Nat.reduceAdd,Nat.reduceSub,Nat.reduceMul,Int.reduceBEq,Int.reduceBNe,Int.reduceLT,Int.reduceLE,Int.reduceEq,reduceIte,reduceCtorEq]
  exact ⟨K',hz⟩
 all_goals first | rfl | (simp only [↓vp,vz,Nat.reduceLT,Nat.reduceEqDiff,Nat.reduceLeDiff,Nat.reduceAdd,Nat.reduceSub,Nat.reduceMul,Int.reduceBEq,Int.reduceBNe,Int.reduceLT,Int.reduceLE,Int.reduceEq,reduceIte,reduceCtorEq,da,int,boolA]; done)
end Go.VI
namespace Go.VI
attribute [local congr] AW_congr OW_congr DW_congr NW_congr VW_congr GW_congr PW_congr KW_congr ite_congr' GV_congr CV_congr
def Src (B : Nat) (K : Heap) (V : AV) (s : List Bool) : Prop:=V = encT s ∨ ∃ id fz,id < B ∧ V = .sl id 0 s.length ∧ K.get id = some (.row fz 1 (s.map bitC))
theorem Src.mono {B : Nat} {K K' : Heap} {V : AV} {s : List Bool} (h : Src B K V s) (hk : ∀ id b,id < B → K.get id = some b → K'.get id = some b) : Src B K' V s:=by
 rcases h with h | ⟨id,fz,h1,h2,h3⟩
 ·exact .inl h
 ·exact .inr ⟨id,fz,h1,h2,hk id _ h1 h3⟩
theorem call_oW {ft : FT} {k : FuncId} {args : List AV} {H : Heap} {n : Nat} {rs : List ARes} {body : ACode} {P : AV → Heap → Prop} (hk : ft k = some (.go false n rs body)) (hl : args.length ≤ n)
  (h : AW ft body (mkE n (ofL args)) H fun x e H' => leaves x = true ∧ ∃ R,resultsA H' e rs = some R ∧ P R H') : KW ft (.fn (.func k) [] []) args H P:=by
 rw [← enterE_mkE _ _ hl] at h
 obtain ⟨x,e,Hc,h,hx,R,hr,hp⟩:=h
 refine ⟨R,Hc,?_,hp⟩
 rw [callL_fn]
 unfold callF
 simp only [hk,List.nil_append,List.append_nil,h,Option.bind_some,if_pos hx,hr,Option.map_some]
end Go.VI
namespace Go.VI
def pinR (x : RunM) (p : Int) : Bool:=decide (x.1 ≤ p) && decide (p < endM x)
def inR (l : List RunM) (p : Int) : Bool:=l.any fun x => pinR x p
theorem pinR_t {x : RunM} {p : Int} : pinR x p = true ↔ x.1 ≤ p ∧ p < endM x:=by simp [pinR]
theorem inR_nil (p : Int) : inR [] p = false:=rfl
theorem inR_cons (x : RunM) (l : List RunM) (p : Int) : inR (x :: l) p = (pinR x p || inR l p):=rfl
theorem inR_append (a b : List RunM) (p : Int) : inR (a ++ b) p = (inR a p || inR b p):=by simp [inR]
theorem inR_perm {a b : List RunM} (h : a.Perm b) (p : Int) : inR a p = inR b p:=by
 unfold inR
 rw [Bool.eq_iff_iff,List.any_eq_true,List.any_eq_true]
 exact ⟨fun ⟨x,h1,h2⟩ => ⟨x,h.mem_iff.1 h1,h2⟩,fun ⟨x,h1,h2⟩ => ⟨x,h.mem_iff.2 h1,h2⟩⟩
theorem inR_t {l : List RunM} {p : Int} : inR l p = true ↔ ∃ x ∈ l,x.1 ≤ p ∧ p < endM x:=by
 unfold inR
 rw [List.any_eq_true]
 exact ⟨fun ⟨x,h1,h2⟩ => ⟨x,h1,pinR_t.1 h2⟩,fun ⟨x,h1,h2⟩ => ⟨x,h1,pinR_t.2 h2⟩⟩
theorem rgt_cons {e : Int} {x : RunM} {l : List RunM} : rgtL e (x :: l) = true ↔ mayM x = true ∧ e < x.1 ∧ rgtL (endM x) l = true:=by simp [rgtL]
theorem rgt_lt : ∀ {l : List RunM} {e : Int},rgtL e l = true → ∀ x ∈ l,e < x.1
 | [],_,_,x,hx => by cases hx
 | y :: l,e,h,x,hx => by
  obtain ⟨h1,h2,h3⟩:=rgt_cons.1 h
  rcases List.mem_cons.1 hx with rfl | hx
  ·exact h2
  ·have:=rgt_lt h3 x hx
   have:=mayM_iff.1 h1
   unfold endM at *
   omega
theorem rgt_snoc : ∀ {l : List RunM} {e : Int} {x : RunM},rgtL e (l ++ [x]) = true ↔ rgtL e l = true ∧ mayM x = true ∧ e < x.1 ∧ ∀ y ∈ l,endM y < x.1
 | [],e,x => by simp [rgt_cons,rgtL]
 | z :: l,e,x => by
  rw [List.cons_append,rgt_cons,rgt_snoc,rgt_cons]
  constructor
  ·rintro ⟨h1,h2,h3,h4,h5,h6⟩
   have:=mayM_iff.1 h1
   refine ⟨⟨h1,h2,h3⟩,h4,?_,fun y hy => ?_⟩
   ·unfold endM at h5
    omega
   ·rcases List.mem_cons.1 hy with rfl | hy
    ·exact h5
    ·exact h6 y hy
  ·rintro ⟨⟨h1,h2,h3⟩,h4,h5,h6⟩
   exact ⟨h1,h2,h3,h4,h6 z (by simp),fun y hy => h6 y (by simp [hy])⟩
end Go.VI
namespace Go.VI
theorem rgt_iff : ∀ {l : List RunM} {e : Int},rgtL e l = true ↔ (∀ x ∈ l,mayM x = true ∧ e < x.1) ∧ l.Pairwise fun a b => endM a < b.1
 | [],e => by simp [rgtL]
 | y :: l,e => by
  rw [rgt_cons,rgt_iff,List.pairwise_cons]
  constructor
  ·rintro ⟨h1,h2,h3,h4⟩
   have m1:=mayM_iff.1 h1
   refine ⟨fun x hx => ?_,fun x hx => (h3 x hx).2,h4⟩
   rcases List.mem_cons.1 hx with rfl | hx
   ·exact ⟨h1,h2⟩
   ·have:=h3 x hx
    refine ⟨this.1,?_⟩
    have:=this.2
    unfold endM at this
    omega
  ·rintro ⟨h1,h2,h3⟩
   exact ⟨(h1 y (by simp)).1,(h1 y (by simp)).2,fun x hx => ⟨(h1 x (by simp [hx])).1,h2 x hx⟩,h3⟩
theorem right_iff {l : List RunM} : rightM l = true ↔ (∀ x ∈ l,mayM x = true) ∧ l.Pairwise fun a b => endM a < b.1:=by
 unfold rightM
 rw [rgt_iff]
 refine ⟨fun h => ⟨fun x hx => (h.1 x hx).1,h.2⟩,fun h => ⟨fun x hx => ⟨h.1 x hx,?_⟩,h.2⟩⟩
 have:=mayM_iff.1 (h.1 x hx)
 omega
theorem clean_right (l : List RunM) : rightM (cleanM l) = true:=by
 unfold cleanM
 split
 ·assumption
 ·rfl
theorem clean_of {l : List RunM} (h : rightM l = true) : cleanM l = l:=by unfold cleanM; rw [if_pos h]
theorem beq_iff' {a b : Bool} (h : a = true ↔ b = true) : a = b:=Bool.eq_iff_iff.2 h
theorem may_pin {x : RunM} (h : mayM x = true) : pinR x x.1 = true:=by
 have:=mayM_iff.1 h
 rw [pinR_t]
 unfold endM
 omega
theorem in_pos {c : List RunM} (h : ∀ x ∈ c,mayM x = true) {p : Int} (hp : inR c p = true) : 0 ≤ p ∧ p < 32768:=by
 obtain ⟨x,hx,h1,h2⟩:=inR_t.1 hp
 have:=mayM_iff.1 (h x hx)
 unfold endM at h2
 omega
theorem joinS_snoc (b : List RunM) (y x : RunM) : joinS (b ++ [y]) x = if x.1 > endM y then b ++ [y] ++ [x] else b ++ [(y.1,mxM (endM y) (endM x) - y.1)]:=by
 rw [joinS_some (m:=b.length) (by simp)]
 simp
theorem joinS_ok {a : List RunM} {x : RunM} (ha : rgtL (-1) a = true) (hx : mayM x = true) (hs : ∀ y ∈ a,y.1 ≤ x.1) :
  rgtL (-1) (joinS a x) = true ∧ (∀ p,inR (joinS a x) p = (inR a p || pinR x p)) ∧ ∀ y ∈ joinS a x,y.1 ≤ x.1:=by
 have mx:=mayM_iff.1 hx
 have ex : endM x = x.1 + x.2:=rfl
 rcases List.eq_nil_or_concat a with rfl | ⟨b,y,rfl⟩
 ·rw [joinS_nil]
  refine ⟨?_,fun p => by simp [inR_cons,inR_nil],by simp⟩
  rw [List.nil_append,rgt_cons]
  exact ⟨hx,by omega,rfl⟩
 ·rw [List.concat_eq_append] at *
  obtain ⟨r1,r2,r3,r4⟩:=rgt_snoc.1 ha
  have my:=mayM_iff.1 r2
  have ey : endM y = y.1 + y.2:=rfl
  have hyx:=hs y (by simp)
  rw [joinS_snoc]
  split
  ·rename_i hgt
   refine ⟨rgt_snoc.2 ⟨ha,hx,by omega,fun z hz => ?_⟩,fun p => by rw [inR_append,inR_cons,inR_nil,Bool.or_false],fun z hz => ?_⟩
   ·rcases List.mem_append.1 hz with hz | hz
    ·have:=r4 z hz
     omega
    ·simp at hz
     rw [hz]; omega
   ·rcases List.mem_append.1 hz with hz | hz
    ·exact hs z hz
    ·simp at hz
     rw [hz]; omega
  ·rename_i hgt
   have e3 : endM (y.1,mxM (endM y) (endM x) - y.1) = mxM (endM y) (endM x):=by unfold endM; simp only; omega
   have e4 : endM y ≤ mxM (endM y) (endM x) ∧ endM x ≤ mxM (endM y) (endM x) ∧ (mxM (endM y) (endM x) = endM y ∨ mxM (endM y) (endM x) = endM x):=by unfold mxM; split <;> omega
   refine ⟨rgt_snoc.2 ⟨r1,mayM_iff.2 ?_,r3,r4⟩,fun p => ?_,fun z hz => ?_⟩
   ·simp only
    omega
   ·rw [inR_append,inR_append,inR_cons,inR_nil,Bool.or_false,inR_cons,inR_nil,Bool.or_false,Bool.or_assoc]
    congr 1
    refine beq_iff' ?_
    rw [Bool.or_eq_true,pinR_t,pinR_t,pinR_t,e3]
    simp only
    omega
   ·rcases List.mem_append.1 hz with hz | hz
    ·exact hs z (by simp [hz])
    ·simp at hz
     rw [hz]; exact hyx
theorem joinF_ok : ∀ (s a : List RunM),rgtL (-1) a = true → (∀ x ∈ s,mayM x = true) → (s.Pairwise fun a b => a.1 ≤ b.1) → (∀ y ∈ a,∀ x ∈ s,y.1 ≤ x.1) →
  rgtL (-1) (s.foldl joinS a) = true ∧ ∀ p,inR (s.foldl joinS a) p = (inR a p || inR s p)
 | [],a,ha,_,_,_ => ⟨ha,fun p => by simp [inR_nil]⟩
 | x :: s,a,ha,hm,hp,hs => by
  obtain ⟨h1,h2,h3⟩:=joinS_ok ha (hm x (by simp)) fun y hy => hs y hy x (by simp)
  rw [List.pairwise_cons] at hp
  have:=joinF_ok s (joinS a x) h1 (fun y hy => hm y (by simp [hy])) hp.2 fun y hy z hz => by
   have q1:=h3 y hy
   have q2:=hp.1 z hz
   omega
  refine ⟨this.1,fun p => ?_⟩
  rw [List.foldl_cons,this.2,h2,inR_cons,Bool.or_assoc]
theorem joinM_ok {l : List RunM} (h : ∀ x ∈ l,mayM x = true) : rightM (joinM l) = true ∧ ∀ p,inR (joinM l) p = inR l p:=by
 have:=joinF_ok (sortR l) [] rfl (sortR_may h) (sortR_sorted l) (by simp)
 refine ⟨this.1,fun p => ?_⟩
 unfold joinM
 rw [this.2,inR_nil,Bool.false_or]
 exact inR_perm (sortR_perm h) p
theorem joinM_len {l : List RunM} (h : ∀ x ∈ l,mayM x = true) : (joinM l).length ≤ l.length:=by
 have:=(fold_may (sortR_may h) [] (by simp)).2
 rw [sortR_len h] at this
 simpa [joinM] using this
theorem overB_t {x y : RunM} (hx : mayM x = true) (hy : mayM y = true) : overB x y = true ↔ y.1 < endM x ∧ x.1 < endM y:=by
 unfold overB
 rw [endW_may hx,endW_may hy]
 simp
theorem overB_pg {x y : RunM} (hx : mayM x = true) (hy : mayM y = true) : overB x y = true ↔ ∃ p,pinR x p = true ∧ pinR y p = true:=by
 rw [overB_t hx hy]
 have m1:=mayM_iff.1 hx
 have m2:=mayM_iff.1 hy
 have e1 : endM x = x.1 + x.2:=rfl
 have e2 : endM y = y.1 + y.2:=rfl
 constructor
 ·rintro ⟨h1,h2⟩
  rcases Int.le_total x.1 y.1 with h | h
  ·exact ⟨y.1,pinR_t.2 ⟨h,h1⟩,may_pin hy⟩
  ·exact ⟨x.1,may_pin hx,pinR_t.2 ⟨h,h2⟩⟩
 ·rintro ⟨p,h1,h2⟩
  rw [pinR_t] at h1 h2
  omega
theorem over_t {l : List RunM} {x : RunM} (hx : mayM x = true) (hl : ∀ y ∈ l,mayM y = true) : 0 ≤ overI l x ↔ ∃ p,inR l p = true ∧ pinR x p = true:=by
 have h1:=(idxM_neg (overB x) l 0).1
 rw [show (0 ≤ overI l x ↔ ∃ p,inR l p = true ∧ pinR x p = true) = (decide (0 ≤ idxM (overB x) 0 l) = true ↔ ∃ p,inR l p = true ∧ pinR x p = true) by rw [decide_eq_true_eq]; rfl,h1,List.any_eq_true]
 constructor
 ·rintro ⟨y,hy,h⟩
  obtain ⟨p,p1,p2⟩:=(overB_pg hx (hl y hy)).1 h
  exact ⟨p,inR_t.2 ⟨y,hy,pinR_t.1 p2⟩,p1⟩
 ·rintro ⟨p,p1,p2⟩
  obtain ⟨y,hy,h⟩:=inR_t.1 p1
  exact ⟨y,hy,(overB_pg hx (hl y hy)).2 ⟨p,p2,pinR_t.2 h⟩⟩
theorem hasM_eq (l : List RunM) (p : Int) : hasM l p = inR (cleanM l) p:=by
 refine beq_iff' ?_
 unfold hasM
 rw [Bool.and_eq_true,decide_eq_true_eq]
 constructor
 ·rintro ⟨h1,h2⟩
  obtain ⟨q,q1,q2⟩:=(over_t h1 (clean_may l)).1 h2
  rw [pinR_t] at q2
  unfold endM at q2
  simp only at q2
  rw [← q1]
  congr 1
  omega
 ·intro h
  have hp:=in_pos (clean_may l) h
  have hm : mayM (p,1) = true:=mayM_iff.2 ⟨by simp; omega,by simp,by simp; omega,by simp; omega⟩
  refine ⟨hm,(over_t hm (clean_may l)).2 ⟨p,h,may_pin hm⟩⟩
theorem addB_iff {l : List RunM} {x : RunM} : addB l x = true ↔ mayM x = true ∧ ∀ p,pinR x p = true → inR (cleanM l) p = false:=by
 unfold addB
 rw [Bool.and_eq_true]
 refine and_congr_right fun hm => ?_
 rw [Bool.not_eq_true',decide_eq_false_iff_not,over_t hm (clean_may l)]
 constructor
 ·intro h p hp
  cases e : inR (cleanM l) p with
  | false => rfl
  | true => exact absurd ⟨p,e,hp⟩ h
 ·rintro h ⟨p,h1,h2⟩
  rw [h p h2] at h1
  cases h1
theorem addM_ok (l : List RunM) (x : RunM) : rightM (addM l x) = true ∧ ∀ p,inR (addM l x) p = (inR (cleanM l) p || (addB l x && pinR x p)):=by
 unfold addM
 cases e : addB l x with
 | false =>
  simp only [Bool.false_eq_true,if_false,Bool.false_and,Bool.or_false]
  exact ⟨clean_right l,fun _ => trivial⟩
 | true =>
  simp only [if_true,Bool.true_and]
  have:=joinM_ok (addB_may (l:=l) (addB_iff.1 e).1)
  refine ⟨this.1,fun p => ?_⟩
  rw [this.2,inR_append,inR_cons,inR_nil,Bool.or_false]
theorem addM_len (l : List RunM) (x : RunM) : (addM l x).length ≤ l.length + 1:=by
 have:=cleanM_len l
 unfold addM
 split
 ·rename_i e
  have h:=joinM_len (addB_may (l:=l) (addB_iff.1 e).1)
  simp at h
  omega
 ·omega
theorem meetM_iff {a b : List RunM} : meetM a b = true ↔ ∃ p,inR (cleanM a) p = true ∧ inR (cleanM b) p = true:=by
 unfold meetM
 rw [List.any_eq_true]
 constructor
 ·rintro ⟨y,hy,h⟩
  rw [decide_eq_true_eq] at h
  obtain ⟨p,p1,p2⟩:=(over_t (clean_may a y hy) (clean_may b)).1 h
  exact ⟨p,inR_t.2 ⟨y,hy,pinR_t.1 p2⟩,p1⟩
 ·rintro ⟨p,p1,p2⟩
  obtain ⟨y,hy,h⟩:=inR_t.1 p1
  exact ⟨y,hy,decide_eq_true ((over_t (clean_may a y hy) (clean_may b)).2 ⟨p,p2,pinR_t.2 h⟩)⟩
end Go.VI
namespace Go.VI
theorem pgs_mem {x : RunM} (h : mayM x = true) {p : Int} : p ∈ pgs x x.2.toNat ↔ pinR x p = true:=by
 have m:=mayM_iff.1 h
 unfold pgs
 rw [List.mem_map,pinR_t]
 unfold endM
 constructor
 ·rintro ⟨k,hk,rfl⟩
  rw [List.mem_range] at hk
  omega
 ·rintro ⟨h1,h2⟩
  exact ⟨(p - x.1).toNat,List.mem_range.2 (by omega),by omega⟩
theorem pgsL_mem {l : List RunM} (h : ∀ x ∈ l,mayM x = true) {p : Int} : p ∈ pgsL l ↔ inR l p = true:=by
 unfold pgsL
 rw [List.mem_flatMap,inR_t]
 constructor
 ·rintro ⟨x,hx,hp⟩
  exact ⟨x,hx,pinR_t.1 ((pgs_mem (h x hx)).1 hp)⟩
 ·rintro ⟨x,hx,hp⟩
  exact ⟨x,hx,(pgs_mem (h x hx)).2 (pinR_t.2 hp)⟩
theorem pgs_rise (x : RunM) (n : Nat) : (pgs x n).Pairwise (· < ·):=by
 unfold pgs
 rw [List.pairwise_map]
 exact (List.pairwise_lt_range (n:=n)).imp fun h => by omega
theorem pgsL_rise : ∀ {l : List RunM},(∀ x ∈ l,mayM x = true) → (l.Pairwise fun a b => endM a < b.1) → (pgsL l).Pairwise (· < ·)
 | [],_,_ => List.Pairwise.nil
 | x :: l,h,hp => by
  have e : pgsL (x :: l) = pgs x x.2.toNat ++ pgsL l:=rfl
  rw [List.pairwise_cons] at hp
  rw [e,List.pairwise_append]
  refine ⟨pgs_rise _ _,pgsL_rise (fun y hy => h y (by simp [hy])) hp.2,fun a ha b hb => ?_⟩
  rw [pgs_mem (h x (by simp)),pinR_t] at ha
  rw [pgsL_mem fun y hy => h y (by simp [hy]),inR_t] at hb
  obtain ⟨y,hy,h1,_⟩:=hb
  have:=hp.1 y hy
  omega
theorem rise_ext : ∀ {a b : List Int},a.Pairwise (· < ·) → b.Pairwise (· < ·) → (∀ p,p ∈ a ↔ p ∈ b) → a = b
 | [],[],_,_,_ => rfl
 | [],y :: b,_,_,h => absurd ((h y).2 (by simp)) (by simp)
 | x :: a,[],_,_,h => absurd ((h x).1 (by simp)) (by simp)
 | x :: a,y :: b,ha,hb,h => by
  rw [List.pairwise_cons] at ha hb
  have e : x = y:=by
   have h1:=(h x).1 (by simp)
   have h2:=(h y).2 (by simp)
   rcases List.mem_cons.1 h1 with h1 | h1
   ·exact h1
   ·rcases List.mem_cons.1 h2 with h2 | h2
    ·exact h2.symm
    ·have q1:=hb.1 x h1
     have q2:=ha.1 y h2
     omega
  subst e
  congr 1
  refine rise_ext ha.2 hb.2 fun p => ?_
  have hp:=h p
  simp only [List.mem_cons] at hp
  constructor
  ·intro k
   rcases hp.1 (.inr k) with rfl | k2
   ·exact absurd (ha.1 p k) (by omega)
   ·exact k2
  ·intro k
   rcases hp.2 (.inr k) with rfl | k2
   ·exact absurd (hb.1 p k) (by omega)
   ·exact k2
def upto (f : Nat → Bool) (n : Nat) : List Int:=((List.range n).filter f).map fun (k : Nat) => (k : Int)
theorem upto_succ (f : Nat → Bool) (n : Nat) : upto f (n + 1) = if f n then upto f n ++ [(n : Int)] else upto f n:=by
 unfold upto
 rw [List.range_succ,List.filter_append]
 cases e : f n <;> simp [e]
theorem upto_len_le (f : Nat → Bool) : ∀ n,(upto f n).length ≤ n
 | 0 => by simp [upto]
 | n + 1 => by
  have:=upto_len_le f n
  rw [upto_succ]
  split <;> simp <;> omega
theorem upto_mem {f : Nat → Bool} {n : Nat} {p : Int} : p ∈ upto f n ↔ 0 ≤ p ∧ p < n ∧ f p.toNat = true:=by
 unfold upto
 rw [List.mem_map]
 constructor
 ·rintro ⟨k,hk,rfl⟩
  rw [List.mem_filter,List.mem_range] at hk
  exact ⟨by omega,by omega,by simpa using hk.2⟩
 ·rintro ⟨h1,h2,h3⟩
  exact ⟨p.toNat,by rw [List.mem_filter,List.mem_range]; exact ⟨by omega,h3⟩,by omega⟩
theorem upto_rise (f : Nat → Bool) (n : Nat) : (upto f n).Pairwise (· < ·):=by
 unfold upto
 rw [List.pairwise_map]
 exact ((List.pairwise_lt_range (n:=n)).filter _).imp fun h => by omega
theorem pages_upto {l : List RunM} {n : Nat} (h : ∀ p,inR (cleanM l) p = true → p < n) : pagesM l = upto (fun k => inR (cleanM l) (k : Int)) n:=by
 have hc:=right_iff.1 (clean_right l)
 refine rise_ext (pgsL_rise hc.1 hc.2) (upto_rise _ _) fun p => ?_
 unfold pagesM
 rw [pgsL_mem hc.1,upto_mem]
 constructor
 ·intro hp
  have:=in_pos hc.1 hp
  refine ⟨this.1,h p hp,?_⟩
  rw [← hp]
  congr 1
  omega
 ·rintro ⟨h1,_,h3⟩
  rw [← h3]
  congr 1
  omega
theorem sum_pages : ∀ {l : List RunM},(∀ x ∈ l,mayM x = true) → sumM l = (pgsL l).length
 | [],_ => rfl
 | x :: l,h => by
  have e : pgsL (x :: l) = pgs x x.2.toNat ++ pgsL l:=rfl
  have m:=mayM_iff.1 (h x (by simp))
  rw [sumM_cons,sum_pages fun y hy => h y (by simp [hy]),e,List.length_append,pgs_len]
  omega
theorem countM_eq (l : List RunM) : countM l = (pagesM l).length:=sum_pages (clean_may l)
def IsEnd (q : Int → Bool) (e : Int) : Prop:=(∀ p,q p = true → p < e) ∧ ((e = 0 ∧ ∀ p,q p = false) ∨ (0 < e ∧ q (e - 1) = true))
theorem IsEnd.ext {q r : Int → Bool} {e : Int} (h : IsEnd q e) (hq : ∀ p,q p = r p) : IsEnd r e:=by
 obtain rfl : q = r:=funext hq
 exact h
theorem IsEnd.or {q r : Int → Bool} {e e' : Int} (h : IsEnd q e) (h' : IsEnd r e') : IsEnd (fun p => q p || r p) (mxM e e'):=by
 obtain ⟨h1,h2⟩:=h
 obtain ⟨k1,k2⟩:=h'
 have he : 0 ≤ e:=by rcases h2 with ⟨h,_⟩ | ⟨h,_⟩ <;> omega
 have he' : 0 ≤ e':=by rcases k2 with ⟨h,_⟩ | ⟨h,_⟩ <;> omega
 have hm : e ≤ mxM e e' ∧ e' ≤ mxM e e' ∧ (mxM e e' = e ∨ mxM e e' = e'):=by unfold mxM; split <;> omega
 refine ⟨fun p hp => ?_,?_⟩
 ·simp only [Bool.or_eq_true] at hp
  rcases hp with hp | hp
  ·have:=h1 p hp
   omega
  ·have:=k1 p hp
   omega
 ·rcases Int.lt_or_le 0 (mxM e e') with hp | hp
  ·right
   refine ⟨hp,?_⟩
   simp only [Bool.or_eq_true]
   rcases hm.2.2 with e0 | e0
   ·rw [e0] at hp ⊢
    rcases h2 with ⟨h2,h3⟩ | ⟨h2,h3⟩
    ·omega
    ·exact .inl h3
   ·rw [e0] at hp ⊢
    rcases k2 with ⟨h2,h3⟩ | ⟨h2,h3⟩
    ·omega
    ·exact .inr h3
  ·left
   refine ⟨by omega,fun p => ?_⟩
   simp only [Bool.or_eq_false_iff]
   constructor
   ·rcases h2 with ⟨h2,h3⟩ | ⟨h2,h3⟩
    ·exact h3 p
    ·omega
   ·rcases k2 with ⟨h2,h3⟩ | ⟨h2,h3⟩
    ·exact h3 p
    ·omega
theorem endsM_is (l : List RunM) : IsEnd (inR (cleanM l)) (endsM l):=by
 have hr:=clean_right l
 unfold endsM
 generalize cleanM l = c at *
 rcases List.eq_nil_or_concat c with rfl | ⟨b,y,rfl⟩
 ·exact ⟨fun p hp => (by rw [inR_nil] at hp; cases hp),.inl ⟨rfl,inR_nil⟩⟩
 ·rw [List.concat_eq_append] at *
  have e1 : (b ++ [y]).isEmpty = false:=by simp
  have e2 : lastM (b ++ [y]) = y:=by simp [lastM]
  rw [e1,e2]
  simp only [Bool.false_eq_true,if_false]
  obtain ⟨r1,r2,r3,r4⟩:=rgt_snoc.1 hr
  have my:=mayM_iff.1 r2
  have ey : endM y = y.1 + y.2:=rfl
  refine ⟨fun p hp => ?_,.inr ⟨by omega,inR_t.2 ⟨y,by simp,by omega,by omega⟩⟩⟩
  obtain ⟨z,hz,h1,h2⟩:=inR_t.1 hp
  rcases List.mem_append.1 hz with hz | hz
  ·have:=r4 z hz
   omega
  ·simp at hz
   rw [hz] at h2
   exact h2
theorem upto_len (f : Nat → Bool) (n : Nat) : (upto f n).length = ((List.range n).filter f).length:=by simp [upto]
theorem filter_count (f g : Nat → Bool) : ∀ l : List Nat,(l.filter f).length + (l.filter g).length = (l.filter fun k => f k || g k).length + (l.filter fun k => f k && g k).length
 | [] => rfl
 | x :: l => by
  have:=filter_count f g l
  simp only [List.filter_cons]
  cases f x <;> cases g x <;> simp <;> omega
theorem upto_count (f g : Nat → Bool) (n : Nat) : (upto f n).length + (upto g n).length = (upto (fun k => f k || g k) n).length + (upto (fun k => f k && g k) n).length:=by
 simp only [upto_len]
 exact filter_count f g _
theorem clean_lt (l : List RunM) : ∀ p,inR (cleanM l) p = true → p < ((32768 : Nat) : Int):=fun p hp => by
 have:=in_pos (clean_may l) hp
 omega
end Go.VI
namespace Go.VI
theorem call_frz {ft : FT} {k : FuncId} {args as' : List AV} {H H1 H2 : Heap} {v : AV} (hp : isPure ft k = true) (hz : frzCells H args = some (as',H1)) (hz2 : frzCells H1 as' = some (as',H1)) (h : callL ft (.fn (.func k) [] []) as' H1 = some (v,H2)) :
  callL ft (.fn (.func k) [] []) args H = some (v,H2):=by
 rw [callL_fn] at h ⊢
 unfold callF at h ⊢
 simp only [List.nil_append,List.append_nil] at h ⊢
 unfold isPure at hp
 split at hp
 ·rename_i p n rs body hk
  subst hp
  simp only [hk,hz,hz2,Option.bind_some] at h ⊢
  exact h
 ·rename_i p hk
  simp only [hk,hz,hz2,Option.bind_some] at h ⊢
  exact h
 ·cases hp
def KF (ft : FT) (f : AV) (args : List AV) (H : Heap) (Q : AV → Heap → Prop) : Prop:=KW ft f args H Q
theorem KF_congr {ft : FT} {f f' : AV} {args args' : List AV} {H H' : Heap} {K : AV → Heap → Prop} (h1 : f = f') (h2 : args = args') (h3 : H = H') : KF ft f args H K = KF ft f' args' H' K:=by rw [h1,h2,h3]
end Go.VI
set_option linter.unusedSectionVars false
namespace Go.VI
attribute [local congr] AW_congr OW_congr DW_congr NW_congr VW_congr GW_congr PW_congr KW_congr ite_congr' GV_congr CV_congr KF_congr
noncomputable def ftG : FT
 | 98 => some (.pprim (goP ftM 98))
 | 45 => some (.pprim (goP ftM 45))
 | 101 => some (.pprim (goP ftM 101))
 | 23 => some (.pprim (goP ftM 23))
 | 59 => some (.pprim (goP ftM 59))
 | 44 => some (.pprim (goP ftM 44))
 | 94 => some (.pprim (goP ftM 94))
 | 32 => some (.pprim (goP ftM 32))
 | 85 => some (.pprim (goP ftM 85))
 | 24 => some (.pprim (goP ftM 24))
 | k => ft k
def genB (g : Int) : Bool:=decide (g ≥ 1) && decide (g ≤ 3)
theorem s46 (g : Int) (H : Heap) : callL ftG (.fn (.func 46) [] []) [int g] H = some (boolA (genB g),H):=by
 refine call_p (as':=[int g]) rfl rfl (by simp) ?_
 unfold c46 r46 genB
 by_cases h1 : g ≥ 1
 ·have d1 : (1 ≤ g) = True:=eq_true h1
  by_cases h2 : g ≤ 3
  ·simp only [↓vp,vz,Nat.reduceLT,Nat.reduceEqDiff,Nat.reduceLeDiff,Nat.reduceAdd,Nat.reduceSub,Nat.reduceMul,Int.reduceBEq,Int.reduceBNe,Int.reduceLT,Int.reduceLE,Int.reduceEq,reduceIte,reduceCtorEq,da,int,boolA,rt,dr,eq_true h1,d1,eq_true h2,Bool.true_and]
  ·simp only [↓vp,vz,Nat.reduceLT,Nat.reduceEqDiff,Nat.reduceLeDiff,Nat.reduceAdd,Nat.reduceSub,Nat.reduceMul,Int.reduceBEq,Int.reduceBNe,Int.reduceLT,Int.reduceLE,Int.reduceEq,reduceIte,reduceCtorEq,da,int,boolA,rt,dr,eq_true h1,d1,eq_false h2,Bool.true_and]
 ·have d1 : (1 ≤ g) = False:=eq_false h1
  simp only [↓vp,vz,Nat.reduceLT,Nat.reduceEqDiff,Nat.reduceLeDiff,Nat.reduceAdd,Nat.reduceSub,Nat.reduceMul,Int.reduceBEq,Int.reduceBNe,Int.reduceLT,Int.reduceLE,Int.reduceEq,reduceIte,reduceCtorEq,da,int,boolA,rt,dr,eq_false h1,d1,Bool.false_and]
theorem k46 {g : Int} {K : Heap} {L : List Blk} {Q : AV → Heap → Prop} : KW ftG (.fn (.func 46) [] []) [int g] (hx K L) Q ↔ Q (boolA (genB g)) (hx K L):=KW_of (s46 g _)
theorem gen_cases {g : Int} (h : genB g = true) : g = 1 ∨ g = 2 ∨ g = 3:=by
 unfold genB at h
 rw [Bool.and_eq_true,decide_eq_true_eq,decide_eq_true_eq] at h
 omega
def traitM (g : Int) : Int × Int × Int × Int:=if g = 1 then (16,400,4,8) else if g = 2 then (20,800,8,16) else if g = 3 then (24,1600,8,16) else (0,0,0,0)
def traitC (t : Int × Int × Int × Int) : List AV:=[int t.1,int t.2.1,int t.2.2.1,int t.2.2.2]
theorem s107 (g : Int) (H : Heap) : callL ftG (.fn (.func 107) [] []) [int g] H = some (.agg (traitC (traitM g)),H):=by
 refine call_p (as':=[int g]) rfl rfl (by simp) ?_
 unfold c107 r107
 have kg:=fun K L Q => @k46 g K L Q
 cases h : genB g with
 | false =>
  have e : traitM g = (0,0,0,0):=by
   unfold traitM
   unfold genB at h
   rw [Bool.and_eq_false_iff,decide_eq_false_iff_not,decide_eq_false_iff_not] at h
   rw [if_neg (by omega),if_neg (by omega),if_neg (by omega)]
  rw [h] at kg
  simp only [int,boolA] at kg
  rw [e]
  unfold traitC
  simp only [↓vp,vz,Nat.reduceLT,Nat.reduceEqDiff,Nat.reduceLeDiff,Nat.reduceAdd,Nat.reduceSub,Nat.reduceMul,Int.reduceBEq,Int.reduceBNe,Int.reduceLT,Int.reduceLE,Int.reduceEq,reduceIte,reduceCtorEq,da,int,boolA,rt,dr,kg]
 | true =>
  rw [h] at kg
  simp only [int,boolA] at kg
  have n3 : ((3 : Nat) : Int) = 3:=rfl
  rcases gen_cases h with rfl | rfl | rfl
  ·have w1 : IntKind.i64.wrap ((1 : Int) - 1) = 0:=by decide
   have t0 : Int.toNat 0 = 0:=rfl
   rw [show traitM 1 = (16,400,4,8) from rfl]
   unfold traitC
   simp only [↓vp,vz,Nat.reduceLT,Nat.reduceEqDiff,Nat.reduceLeDiff,Nat.reduceAdd,Nat.reduceSub,Nat.reduceMul,Int.reduceBEq,Int.reduceBNe,Int.reduceLT,Int.reduceLE,Int.reduceEq,reduceIte,reduceCtorEq,da,int,boolA,rt,dr,kg,w1,n3,t0]
  ·have w1 : IntKind.i64.wrap ((2 : Int) - 1) = 1:=by decide
   have t0 : Int.toNat 1 = 1:=rfl
   rw [show traitM 2 = (20,800,8,16) from rfl]
   unfold traitC
   simp only [↓vp,vz,Nat.reduceLT,Nat.reduceEqDiff,Nat.reduceLeDiff,Nat.reduceAdd,Nat.reduceSub,Nat.reduceMul,Int.reduceBEq,Int.reduceBNe,Int.reduceLT,Int.reduceLE,Int.reduceEq,reduceIte,reduceCtorEq,da,int,boolA,rt,dr,kg,w1,n3,t0]
  ·have w1 : IntKind.i64.wrap ((3 : Int) - 1) = 2:=by decide
   have t0 : Int.toNat 2 = 2:=rfl
   rw [show traitM 3 = (24,1600,8,16) from rfl]
   unfold traitC
   simp only [↓vp,vz,Nat.reduceLT,Nat.reduceEqDiff,Nat.reduceLeDiff,Nat.reduceAdd,Nat.reduceSub,Nat.reduceMul,Int.reduceBEq,Int.reduceBNe,Int.reduceLT,Int.reduceLE,Int.reduceEq,reduceIte,reduceCtorEq,da,int,boolA,rt,dr,kg,w1,n3,t0]
theorem k107 {g : Int} {K : Heap} {L : List Blk} {Q : AV → Heap → Prop} : KW ftG (.fn (.func 107) [] []) [int g] (hx K L) Q ↔ Q (.agg (traitC (traitM g))) (hx K L):=KW_of (s107 g _)
theorem s66 (g : Int) (H : Heap) : callL ftG (.fn (.func 66) [] []) [int g] H = some (int (traitM g).2.2.1,H):=by
 refine call_p (as':=[int g]) rfl rfl (by simp) ?_
 unfold c66 r66
 have kt:=fun K L Q => @k107 g K L Q
 unfold traitC at kt
 simp only [int] at kt
 simp only [↓vp,vz,Nat.reduceLT,Nat.reduceEqDiff,Nat.reduceLeDiff,Nat.reduceAdd,Nat.reduceSub,Nat.reduceMul,Int.reduceBEq,Int.reduceBNe,Int.reduceLT,Int.reduceLE,Int.reduceEq,reduceIte,reduceCtorEq,da,int,boolA,rt,dr,kt]
theorem s114 (g : Int) (H : Heap) : callL ftG (.fn (.func 114) [] []) [int g] H = some (int (traitM g).2.2.2,H):=by
 refine call_p (as':=[int g]) rfl rfl (by simp) ?_
 unfold c114 r114
 have kt:=fun K L Q => @k107 g K L Q
 unfold traitC at kt
 simp only [int] at kt
 simp only [↓vp,vz,Nat.reduceLT,Nat.reduceEqDiff,Nat.reduceLeDiff,Nat.reduceAdd,Nat.reduceSub,Nat.reduceMul,Int.reduceBEq,Int.reduceBNe,Int.reduceLT,Int.reduceLE,Int.reduceEq,reduceIte,reduceCtorEq,da,int,boolA,rt,dr,kt]
theorem k66 {g : Int} {K : Heap} {L : List Blk} {Q : AV → Heap → Prop} : KW ftG (.fn (.func 66) [] []) [int g] (hx K L) Q ↔ Q (int (traitM g).2.2.1) (hx K L):=KW_of (s66 g _)
theorem k114 {g : Int} {K : Heap} {L : List Blk} {Q : AV → Heap → Prop} : KW ftG (.fn (.func 114) [] []) [int g] (hx K L) Q ↔ Q (int (traitM g).2.2.2) (hx K L):=KW_of (s114 g _)
def capM (g : Int) : Int:=if genB g = true then 256 - (traitM g).2.2.2 else 0
theorem s83 (g : Int) (H : Heap) : callL ftG (.fn (.func 83) [] []) [int g] H = some (int (capM g),H):=by
 refine call_p (as':=[int g]) rfl rfl (by simp) ?_
 unfold c83 r83 capM
 have kg:=fun K L Q => @k46 g K L Q
 have kh:=fun K L Q => @k114 g K L Q
 cases h : genB g with
 | false =>
  rw [h] at kg
  simp only [int,boolA] at kg
  simp only [↓vp,vz,Nat.reduceLT,Nat.reduceEqDiff,Nat.reduceLeDiff,Nat.reduceAdd,Nat.reduceSub,Nat.reduceMul,Int.reduceBEq,Int.reduceBNe,Int.reduceLT,Int.reduceLE,Int.reduceEq,reduceIte,reduceCtorEq,da,int,boolA,rt,dr,kg]
 | true =>
  have w1 : IntKind.i64.wrap (256 - (traitM g).2.2.2) = 256 - (traitM g).2.2.2:=by rcases gen_cases h with rfl | rfl | rfl <;> decide
  rw [h] at kg
  simp only [int,boolA] at kg kh
  simp only [↓vp,vz,Nat.reduceLT,Nat.reduceEqDiff,Nat.reduceLeDiff,Nat.reduceAdd,Nat.reduceSub,Nat.reduceMul,Int.reduceBEq,Int.reduceBNe,Int.reduceLT,Int.reduceLE,Int.reduceEq,reduceIte,reduceCtorEq,da,int,boolA,rt,dr,kg,kh,w1,if_true]
theorem k83 {g : Int} {K : Heap} {L : List Blk} {Q : AV → Heap → Prop} : KW ftG (.fn (.func 83) [] []) [int g] (hx K L) Q ↔ Q (int (capM g)) (hx K L):=KW_of (s83 g _)
theorem s64 (g : Int) (H : Heap) : callL ftG (.fn (.func 64) [] []) [int g] H = some (boolA (decide (g > 1)),H):=by
 refine call_p (as':=[int g]) rfl rfl (by simp) ?_
 unfold c64 r64
 by_cases h1 : g > 1
 ·have d1 : (1 < g) = True:=eq_true h1
  rw [decide_eq_true h1]
  simp only [↓vp,vz,Nat.reduceLT,Nat.reduceEqDiff,Nat.reduceLeDiff,Nat.reduceAdd,Nat.reduceSub,Nat.reduceMul,Int.reduceBEq,Int.reduceBNe,Int.reduceLT,Int.reduceLE,Int.reduceEq,reduceIte,reduceCtorEq,da,int,boolA,rt,dr,eq_true h1,d1]
 ·have d1 : (1 < g) = False:=eq_false h1
  rw [decide_eq_false h1]
  simp only [↓vp,vz,Nat.reduceLT,Nat.reduceEqDiff,Nat.reduceLeDiff,Nat.reduceAdd,Nat.reduceSub,Nat.reduceMul,Int.reduceBEq,Int.reduceBNe,Int.reduceLT,Int.reduceLE,Int.reduceEq,reduceIte,reduceCtorEq,da,int,boolA,rt,dr,eq_false h1,d1]
theorem k64 {g : Int} {K : Heap} {L : List Blk} {Q : AV → Heap → Prop} : KW ftG (.fn (.func 64) [] []) [int g] (hx K L) Q ↔ Q (boolA (decide (g > 1))) (hx K L):=KW_of (s64 g _)
theorem first_in (x : Int) : ∀ l : List Int,x ∈ l → ∃ i,∃ hi : i < l.length,(x == l[i]) = true ∧ ∀ j (hj : j < i),(x == l[j]'(by omega)) = false
 | [],h => by cases h
 | y :: t,h => by
  cases c : (x == y) with
  | true => exact ⟨0,by simp,c,fun j hj => by omega⟩
  | false =>
   obtain ⟨i,hi,h1,h2⟩:=first_in x t (by
    rcases List.mem_cons.1 h with e | e
    ·rw [e] at c; simp at c
    ·exact e)
   refine ⟨i + 1,by simpa using hi,by simpa using h1,fun j hj => ?_⟩
   cases j with
   | zero => exact c
   | succ j => exact h2 j (by omega)
theorem l115 (x : Int) (l : List Int) (hl : l.length ≤ 100000000000000) {Q : AExit → Env → Heap → Prop}
   (hex : ∀ f' K, (∀ y ∈ l, (x == y) = false) → Q (.exit 0) (mkE 19 f') (hx K []))
   (hret : ∀ f' K (i : Nat) (hi : i < l.length), (x == l[i]) = true → (∀ j (hj : j < i), (x == l[j]) = false) → f' 4 = int i → Q .ret (mkE 19 f') (hx K [])) :
   ∀ (d i : Nat) (K : Heap) (f : Nat → AV), i + d = l.length → (∀ j (hj : j < l.length), j < i → (x == l[j]) = false) → f 0 = encN l → f 1 = int x → f 7 = int l.length → f 8 = int i →
    AW ftG (.loop c115L0) (mkE 19 f) (hx K []) Q := by
  intro d
  induction d with
  | zero =>
    intro i K f hd hno f0 f1 f7 f8
    have g : ((i : Int) < l.length) = False := by simp; omega
    rw [AW_loop]
    unfold c115L0
    simp only [↓vp, vz, Nat.reduceLT, Nat.reduceEqDiff, Nat.reduceLeDiff, Nat.reduceAdd, Nat.reduceSub, Nat.reduceMul, Int.reduceBEq, Int.reduceBNe, Int.reduceLT, Int.reduceLE, Int.reduceEq, reduceIte, reduceCtorEq, da, int, boolA, dr, f7, f8, g]
    refine hex _ K fun y hy => ?_
    obtain ⟨j, hj, rfl⟩ := List.getElem_of_mem hy
    exact hno j hj (by omega)
  | succ d ih =>
    intro i K f hd hno f0 f1 f7 f8
    have g1 : ((i : Int) < l.length) = True := by simp; omega
    have gi : i < l.length := by omega
    have w1 := wrap_succ (show i < 9223372036854775807 by omega)
    have a0 := fun H => @atN H l i gi
    have b0 := fun H off n => @cN H l i off n gi
    simp only [numC, int] at b0
    rw [AW_loop]
    unfold c115L0
    cases c : (x == l[i]) with
    | true =>
      simp only [↓vp, vz, Nat.reduceLT, Nat.reduceEqDiff, Nat.reduceLeDiff, Nat.reduceAdd, Nat.reduceSub, Nat.reduceMul, Int.reduceBEq, Int.reduceBNe, Int.reduceLT, Int.reduceLE, Int.reduceEq, reduceIte, reduceCtorEq, da, int, boolA, dr, f0, f1, f7, f8, g1, a0, b0, c]
      refine hret _ K i gi c (fun j hj => hno j (by omega) hj) ?_
      simp only [↓vp, vz, Nat.reduceLT, Nat.reduceEqDiff, Nat.reduceLeDiff, Nat.reduceAdd, Nat.reduceSub, Nat.reduceMul, Int.reduceBEq, Int.reduceBNe, Int.reduceLT, Int.reduceLE, Int.reduceEq, reduceIte, reduceCtorEq, da, int, boolA]
    | false =>
      simp only [↓vp, vz, Nat.reduceLT, Nat.reduceEqDiff, Nat.reduceLeDiff, Nat.reduceAdd, Nat.reduceSub, Nat.reduceMul, Int.reduceBEq, Int.reduceBNe, Int.reduceLT, Int.reduceLE, Int.reduceEq, reduceIte, reduceCtorEq, da, int, boolA, dr, f0, f1, f7, f8, g1, a0, b0, c, w1]
      refine ih (i + 1) K _ (by omega) (fun j hj h => ?_) ?_ ?_ ?_ ?_
      · rcases Nat.lt_or_ge j i with e | e
        · exact hno j hj e
        · obtain rfl : j = i := by omega
          exact c
      all_goals simp only [↓vp, vz, Nat.reduceLT, Nat.reduceEqDiff, Nat.reduceLeDiff, Nat.reduceAdd, Nat.reduceSub, Nat.reduceMul, Int.reduceBEq, Int.reduceBNe, Int.reduceLT, Int.reduceLE, Int.reduceEq, reduceIte, reduceCtorEq, da, int, boolA, f0, f1, f7]
theorem p84 (x : Int) (l : List Int) (hl : l.length ≤ 100000000000000) {args : List AV} {H H1 : Heap} (hz : frzCells H args = some ([encN l,int x],H1)) : callL ftG (.fn (.func 84) [] []) args H = some (boolA (decide (x ∈ l)),H1):=by
 have h115 : ∀ H,∃ p : Int,callL ftG (.fn (.func 115) [] []) [encN l,int x] H = some (int p,H) ∧ (p ≥ 0 ↔ x ∈ l):=fun H => by
  by_cases hx : x ∈ l
  ·obtain ⟨i,hi,h1,h2⟩:=first_in x l hx
   refine ⟨i,call_p (as':=[encN l,int x]) rfl rfl (by simp) ?_,⟨fun _ => hx,fun _ => by omega⟩⟩
   unfold c115 r115
   simp only [↓vp,vz,Nat.reduceLT,Nat.reduceEqDiff,Nat.reduceLeDiff,Nat.reduceAdd,Nat.reduceSub,Nat.reduceMul,Int.reduceBEq,Int.reduceBNe,Int.reduceLT,Int.reduceLE,Int.reduceEq,reduceIte,reduceCtorEq,da,int,boolA,dr]
   rw [← hx_nil Heap.empty]
   refine l115 x l hl (fun f' K hno => ?_) (fun f' K k hk k1 k2 f4 => ?_) l.length 0 _ _ (by simp) (fun j hj h => by omega) ?_ ?_ ?_ ?_
   ·have:=hno _ (List.getElem_mem hi)
    rw [h1] at this
    cases this
   ·obtain rfl : k = i:=by
     rcases Nat.lt_trichotomy k i with q | q | q
     ·rw [h2 k q] at k1; cases k1
     ·exact q
     ·rw [k2 i q] at h1; cases h1
    simp only [↓vp,vz,Nat.reduceLT,Nat.reduceEqDiff,Nat.reduceLeDiff,Nat.reduceAdd,Nat.reduceSub,Nat.reduceMul,Int.reduceBEq,Int.reduceBNe,Int.reduceLT,Int.reduceLE,Int.reduceEq,reduceIte,reduceCtorEq,da,int,boolA,rt,f4]
   all_goals first | (simp only [↓vp,vz,Nat.reduceLT,Nat.reduceEqDiff,Nat.reduceLeDiff,Nat.reduceAdd,Nat.reduceSub,Nat.reduceMul,Int.reduceBEq,Int.reduceBNe,Int.reduceLT,Int.reduceLE,Int.reduceEq,reduceIte,reduceCtorEq,da,int,boolA]; done) | (simp only [↓vp,vz,Nat.reduceLT,Nat.reduceEqDiff,Nat.reduceLeDiff,Nat.reduceAdd,Nat.reduceSub,Nat.reduceMul,Int.reduceBEq,Int.reduceBNe,Int.reduceLT,Int.reduceLE,Int.reduceEq,reduceIte,reduceCtorEq,da,int,boolA]; rfl)
  ·refine ⟨-1,call_p (as':=[encN l,int x]) rfl rfl (by simp) ?_,⟨fun h => absurd h (by decide),fun h => absurd h hx⟩⟩
   unfold c115 r115
   simp only [↓vp,vz,Nat.reduceLT,Nat.reduceEqDiff,Nat.reduceLeDiff,Nat.reduceAdd,Nat.reduceSub,Nat.reduceMul,Int.reduceBEq,Int.reduceBNe,Int.reduceLT,Int.reduceLE,Int.reduceEq,reduceIte,reduceCtorEq,da,int,boolA,dr]
   rw [← hx_nil Heap.empty]
   refine l115 x l hl (fun f' K hno => ?_) (fun f' K k hk k1 k2 f4 => ?_) l.length 0 _ _ (by simp) (fun j hj h => by omega) ?_ ?_ ?_ ?_
   ·unfold c115R1
    simp only [↓vp,vz,Nat.reduceLT,Nat.reduceEqDiff,Nat.reduceLeDiff,Nat.reduceAdd,Nat.reduceSub,Nat.reduceMul,Int.reduceBEq,Int.reduceBNe,Int.reduceLT,Int.reduceLE,Int.reduceEq,reduceIte,reduceCtorEq,da,int,boolA,rt]
   ·exact absurd (by rw [show x = l[k] by simpa using k1]; exact List.getElem_mem hk) hx
   all_goals first | (simp only [↓vp,vz,Nat.reduceLT,Nat.reduceEqDiff,Nat.reduceLeDiff,Nat.reduceAdd,Nat.reduceSub,Nat.reduceMul,Int.reduceBEq,Int.reduceBNe,Int.reduceLT,Int.reduceLE,Int.reduceEq,reduceIte,reduceCtorEq,da,int,boolA]; done) | (simp only [↓vp,vz,Nat.reduceLT,Nat.reduceEqDiff,Nat.reduceLeDiff,Nat.reduceAdd,Nat.reduceSub,Nat.reduceMul,Int.reduceBEq,Int.reduceBNe,Int.reduceLT,Int.reduceLE,Int.reduceEq,reduceIte,reduceCtorEq,da,int,boolA]; rfl)
 refine call_p (as':=[encN l,int x]) rfl (by simpa using hz) (by simp) ?_
 unfold c84 r84
 obtain ⟨p,hp1,hp2⟩:=h115 (hx Heap.empty [])
 have kp:=fun Q => @KW_of ftG _ _ _ Q _ _ hp1
 simp only [int] at kp
 by_cases c : x ∈ l
 ·have d1 : (p ≥ 0) = True:=eq_true (hp2.2 c)
  have d2 : (0 ≤ p) = True:=eq_true (hp2.2 c)
  rw [decide_eq_true c]
  simp only [↓vp,vz,Nat.reduceLT,Nat.reduceEqDiff,Nat.reduceLeDiff,Nat.reduceAdd,Nat.reduceSub,Nat.reduceMul,Int.reduceBEq,Int.reduceBNe,Int.reduceLT,Int.reduceLE,Int.reduceEq,reduceIte,reduceCtorEq,da,int,boolA,rt,dr,kp,d1,d2]
 ·have d1 : (p ≥ 0) = False:=eq_false fun h => c (hp2.1 h)
  have d2 : (0 ≤ p) = False:=eq_false fun h => c (hp2.1 h)
  rw [decide_eq_false c]
  simp only [↓vp,vz,Nat.reduceLT,Nat.reduceEqDiff,Nat.reduceLeDiff,Nat.reduceAdd,Nat.reduceSub,Nat.reduceMul,Int.reduceBEq,Int.reduceBNe,Int.reduceLT,Int.reduceLE,Int.reduceEq,reduceIte,reduceCtorEq,da,int,boolA,rt,dr,kp,d1,d2]
theorem s84 (x : Int) (l : List Int) (hl : l.length ≤ 100000000000000) (H : Heap) : callL ftG (.fn (.func 84) [] []) [encN l,int x] H = some (boolA (decide (x ∈ l)),H):=p84 x l hl rfl
end Go.VI
namespace Go.VI
attribute [local congr] AW_congr OW_congr DW_congr NW_congr VW_congr GW_congr PW_congr KW_congr ite_congr' GV_congr CV_congr KF_congr
def shrM (n y : Int) : Int:=n.fdiv (2 ^ (min y.toNat 64))
theorem shr_i {t : TypeId} {n y : Int} (hy : 0 ≤ y) : binA .shr t (.sc (.int .i64 n)) (.sc (.int .i64 y)) = some (.sc (.int .i64 (shrM n y))):=by
 have e : binOp .shr t (.int .i64 n) (.int .i64 y) = Op.shift .shr .i64 n .i64 y:=rfl
 show (pureRun (binOp .shr t (.int .i64 n) (.int .i64 y))).bind ofScalar = _
 rw [e]
 unfold Op.shift
 rw [if_neg (by omega)]
 rfl
def fitsM (n width : Int) : Bool:=decide (width ≥ 1) && decide (width ≤ 8) && decide (n ≥ 0) && (width == 8 || shrM n (8 * width) == 0)
theorem s117 (n width : Int) (H : Heap) : callL ftG (.fn (.func 117) [] []) [int n,int width] H = some (boolA (fitsM n width),H):=by
 refine call_p (as':=[int n,int width]) rfl rfl (by simp) ?_
 unfold c117 r117 fitsM
 by_cases h1 : width ≥ 1
 ·have d1 : (1 ≤ width) = True:=eq_true h1
  by_cases h2 : width ≤ 8
  ·by_cases h3 : n ≥ 0
   ·have d3 : (0 ≤ n) = True:=eq_true h3
    cases h4 : (width == 8) with
    | true =>
     simp only [↓vp,vz,Nat.reduceLT,Nat.reduceEqDiff,Nat.reduceLeDiff,Nat.reduceAdd,Nat.reduceSub,Nat.reduceMul,Int.reduceBEq,Int.reduceBNe,Int.reduceLT,Int.reduceLE,Int.reduceEq,reduceIte,reduceCtorEq,da,int,boolA,rt,dr,eq_true h1,d1,eq_true h2,eq_true h3,d3,h4,Bool.true_and,Bool.true_or]
    | false =>
     have w1 : IntKind.i64.wrap (8 * width) = 8 * width:=wrap_i64 (by omega)
     have k:=fun t => @shr_i t n (8 * width) (by omega)
     simp only [↓vp,vz,Nat.reduceLT,Nat.reduceEqDiff,Nat.reduceLeDiff,Nat.reduceAdd,Nat.reduceSub,Nat.reduceMul,Int.reduceBEq,Int.reduceBNe,Int.reduceLT,Int.reduceLE,Int.reduceEq,reduceIte,reduceCtorEq,da,int,boolA,rt,dr,eq_true h1,d1,eq_true h2,eq_true h3,d3,h4,w1,k,Bool.true_and,Bool.false_or]
   ·have d3 : (0 ≤ n) = False:=eq_false h3
    simp only [↓vp,vz,Nat.reduceLT,Nat.reduceEqDiff,Nat.reduceLeDiff,Nat.reduceAdd,Nat.reduceSub,Nat.reduceMul,Int.reduceBEq,Int.reduceBNe,Int.reduceLT,Int.reduceLE,Int.reduceEq,reduceIte,reduceCtorEq,da,int,boolA,rt,dr,eq_true h1,d1,eq_true h2,eq_false h3,d3,Bool.true_and,Bool.false_and]
  ·simp only [↓vp,vz,Nat.reduceLT,Nat.reduceEqDiff,Nat.reduceLeDiff,Nat.reduceAdd,Nat.reduceSub,Nat.reduceMul,Int.reduceBEq,Int.reduceBNe,Int.reduceLT,Int.reduceLE,Int.reduceEq,reduceIte,reduceCtorEq,da,int,boolA,rt,dr,eq_true h1,d1,eq_false h2,Bool.true_and,Bool.false_and]
 ·have d1 : (1 ≤ width) = False:=eq_false h1
  simp only [↓vp,vz,Nat.reduceLT,Nat.reduceEqDiff,Nat.reduceLeDiff,Nat.reduceAdd,Nat.reduceSub,Nat.reduceMul,Int.reduceBEq,Int.reduceBNe,Int.reduceLT,Int.reduceLE,Int.reduceEq,reduceIte,reduceCtorEq,da,int,boolA,rt,dr,eq_false h1,d1,Bool.false_and]
theorem k117 {n width : Int} {K : Heap} {L : List Blk} {Q : AV → Heap → Prop} : KW ftG (.fn (.func 117) [] []) [int n,int width] (hx K L) Q ↔ Q (boolA (fitsM n width)) (hx K L):=KW_of (s117 n width _)
def RetW (rs : List ARes) (P : AV → Heap → Prop) (x : AExit) (e : Env) (H : Heap) : Prop:=leaves x = true ∧ ∃ R,resultsA H e rs = some R ∧ P R H
section
variable {P : AV → Heap → Prop} {x : AExit} {n t u : Nat} {f : Nat → AV} {H : Heap}
theorem rw0 : RetW [] P x (mkE n f) H ↔ leaves x = true ∧ P (.tup []) H:=by
 unfold RetW resultsA
 simp [resN]
theorem rw1 : RetW [.tmp t] P x (mkE n f) H ↔ leaves x = true ∧ P (if t < n then f t else .bad) H:=by
 unfold RetW resultsA
 simp only [resT,resN,Option.map_some,Option.some.injEq,exists_eq_left']
theorem rw2 : RetW [.tmp t,.tmp u] P x (mkE n f) H ↔ leaves x = true ∧ P (.tup [if t < n then f t else .bad,if u < n then f u else .bad]) H:=by
 unfold RetW resultsA
 simp only [resT,resN,Option.map_some,Option.some.injEq,exists_eq_left']
theorem rwc {g : Bool} {m : Nat} : RetW [.cell t g m] P x (mkE n f) H ↔ leaves x = true ∧ PW (((cellsAt H (if t < n then f t else .bad) m).bind (pack g)).map fun v => (v,H)) P:=by
 unfold RetW resultsA PW
 simp only [resC,resN,Option.map_some]
 cases ((cellsAt H (if t < n then f t else .bad) m).bind (pack g)) with
 | none => simp
 | some v =>
  simp
  exact fun _ => ⟨fun h => ⟨v,H,⟨rfl,rfl⟩,h⟩,fun ⟨_,_,⟨rfl,rfl⟩,h⟩ => h⟩
end
set_option linter.defProp false in
def rw:=And.intro @rw0 <| And.intro @rw1 <| And.intro @rw2 @rwc
theorem call_W {ft : FT} {k : FuncId} {args : List AV} {K : Heap} {n : Nat} {rs : List ARes} {body : ACode} {P : AV → Heap → Prop} (hk : ft k = some (.go false n rs body)) (hl : args.length ≤ n)
  (h : AW ft body (mkE n (ofL args)) (hx K []) (RetW rs P)) : KW ft (.fn (.func k) [] []) args K P:=by
 rw [hx_nil] at h
 exact call_oW hk hl h
def curB (V : AV) (at' : Int) (sp : Bool) : Blk:=.box false [V,int at',boolA sp]
def nextOk (len at' : Int) (sp : Bool) (n : Int) : Bool:=!sp && !decide (n < 0) && !decide (n > len - at')
section
variable {K : Heap} {cid : Nat} {V : AV} {at' n : Int} {sp : Bool} {len : Nat} {Q : AV → Heap → Prop}
   (hb : K.get cid = some (curB V at' sp)) (hl : ∀ H, lenV H 0 V = some (int len, H)) (ha : 0 ≤ at') (ha2 : at' ≤ len) (hlen : len ≤ 1000000)
include hb hl ha ha2 hlen
theorem o106b {W : AV} (h : nextOk len at' sp n = true) (hs : sliceA (hx (K.set cid (curB V (at' + n) sp)) []) 1 V (some at') (some (at' + n)) none = some W) (hq : Q W (K.set cid (curB V (at' + n) sp))) : KW ftG (.fn (.func 106) [] []) [.ptr cid 0 0,int n] K Q:=by
 have y0:=fun L => get_old hb L
 have lid:=Heap.get_lt hb
 have gs : ∀ L b,(hx K L).set cid b = hx (K.set cid b) L:=fun L b => hx_set_old K L b cid lid
 have y2 : ∀ b L,(hx (K.set cid b) L).get cid = some b:=fun b L => get_old (Heap.get_set_self _ lid) L
 have w1 : IntKind.i64.wrap ((len : Int) - at') = len - at':=wrap_i64 (by omega)
 refine call_W rfl (by simp) ?_
 unfold c106 r106
 unfold nextOk at h
 rw [Bool.and_eq_true,Bool.and_eq_true,Bool.not_eq_true',Bool.not_eq_true',Bool.not_eq_true',decide_eq_false_iff_not,decide_eq_false_iff_not] at h
 obtain ⟨⟨rfl,h1⟩,h2⟩:=h
 have w2 : IntKind.i64.wrap (at' + n) = at' + n:=wrap_i64 (by omega)
 have w3 : IntKind.i64.wrap (at' + n - n) = at':=by rw [wrap_i64 (by omega)]; omega
 have d2 : ((len : Int) - at' < n) = False:=eq_false h2
 unfold curB at y0 hq hs
 simp only [int,boolA] at y0 hq hl hs
 have tI : ∀ i : Int,toI (.sc (.int .i64 i)) = some i:=fun _ => rfl
 simp only [↓vp,vz,Nat.reduceLT,Nat.reduceEqDiff,Nat.reduceLeDiff,Nat.reduceAdd,Nat.reduceSub,Nat.reduceMul,Int.reduceBEq,Int.reduceBNe,Int.reduceLT,Int.reduceLE,Int.reduceEq,reduceIte,reduceCtorEq,da,int,boolA,dr,y0,y2,opI1,opI0,tI,hl,gs,eq_false h1,w1,w2,w3,eq_false h2,d2,hs,rw1]
 rw [hx_nil]
 exact hq
end
def byteAt (n : Int) (k : Nat) : Int:=IntKind.u8.wrap (shrM n (8 * k))
def bytesN (n : Int) (width : Nat) : List Int:=(List.range width).map (byteAt n)
theorem bytesN_len (n : Int) (width : Nat) : (bytesN n width).length = width:=by simp [bytesN]
theorem bytesN_succ (n : Int) (width : Nat) : bytesN n (width + 1) = bytesN n width ++ [byteAt n width]:=by simp [bytesN,List.range_succ]
def wrM (bs : List Int) (a : Nat) (l : List Int) : List Int:=bs.take a ++ l ++ bs.drop (a + l.length)
theorem wrM_len {bs l : List Int} {a : Nat} (h : a + l.length ≤ bs.length) : (wrM bs a l).length = bs.length:=by
 unfold wrM
 simp
 omega
theorem wrM_nil (bs : List Int) (a : Nat) : wrM bs a [] = bs:=by simp [wrM]
theorem wrM_snoc {bs l : List Int} {a : Nat} {x : Int} (h : a + l.length < bs.length) : (wrM bs a l).set (a + l.length) x = wrM bs a (l ++ [x]):=by
 unfold wrM
 have e1 : bs.drop (a + l.length) = bs[a + l.length] :: bs.drop (a + l.length + 1):=List.drop_eq_getElem_cons h
 have e2 : (bs.take a ++ l).length = a + l.length:=by simp; omega
 rw [List.set_append,if_neg (by omega),e2,Nat.sub_self,e1,List.set_cons_zero,List.length_append,List.append_assoc,List.append_assoc,List.append_assoc]
 rfl
theorem frz_bytes {K : Heap} {id : Nat} {bs : List Int} (hg : K.get id = some (.row false 1 (bs.map byteC))) (L : List Blk) :
  frzCells (hx K L) [.sl id 0 bs.length] = some ([encB bs],hx (K.set id (.row true 1 (bs.map byteC))) L):=by
 have lid:=Heap.get_lt hg
 rw [frzCells_eq,frzL_cons,frz_sl,hx_get_old K L id lid,hg]
 simp only
 rw [if_pos (by rw [List.length_map]; omega),List.drop_zero,List.take_of_length_le (by rw [List.length_map]; omega)]
 simp only [Bool.false_eq_true,if_false,hx_set_old K L _ id lid]
 rfl
theorem bytes_sz (bs : List Int) : allSz 1 (bs.map byteC) = true:=by
 unfold allSz
 rw [List.all_eq_true]
 intro x hx
 obtain ⟨y,-,rfl⟩:=List.mem_map.1 hx
 rfl
theorem cloB_val (bs : List Int) (h : bs.length ≤ 1000000) : cloF 1 1 [encB bs] = some (encB bs):=by
 cases bs with
 | nil => rfl
 | cons x r =>
  have hz:=bytes_sz (x :: r)
  simp only [encB,List.map_cons,byteC,cloF] at hz ⊢
  rw [if_pos ⟨by simp at h ⊢; omega,hz⟩]
theorem ia_off {H : Heap} {id off len sz i : Nat} {fz : Bool} {rs : List (List AV)} (hg : H.get id = some (.row fz sz rs)) (hi : i < len) : iaddrA H none sz (.sl id off len) (i : Int) = some (.ptr id (off + i) 0):=by
 unfold iaddrA rowSz
 simp only [hg]
 rw [if_pos ⟨by omega,by omega,trivial⟩,Int.toNat_natCast]
section
variable {sid : Nat} {bs : List Int} {n : Int} {at' width : Nat} (hw : at' + width ≤ bs.length) (hlen : bs.length ≤ 1000000)
include hw hlen
theorem l88 {Q : AExit → Env → Heap → Prop} (K0 : Heap)
   (hex : ∀ f' K, K.get sid = some (.row false 1 ((wrM bs at' (bytesN n width)).map byteC)) → K.next = K0.next → (∀ j, j ≠ sid → K.get j = K0.get j) → Q (.exit 0) (mkE 35 f') (hx K [])) :
   ∀ (d i : Nat) (K : Heap) (f : Nat → AV), i + d = width → K.get sid = some (.row false 1 ((wrM bs at' (bytesN n i)).map byteC)) → K.next = K0.next → (∀ j, j ≠ sid → K.get j = K0.get j) → f 1 = int n → f 6 = .sl sid at' width → f 22 = int width → f 23 = int i →
    AW ftG (.loop c88L0) (mkE 35 f) (hx K []) Q := by
  intro d
  induction d with
  | zero =>
    intro i K f hd hs hn hk f1 f6 f22 f23
    obtain rfl : i = width := by omega
    have g : ((i : Int) < i) = False := by simp
    rw [AW_loop]
    unfold c88L0
    simp only [↓vp, vz, Nat.reduceLT, Nat.reduceEqDiff, Nat.reduceLeDiff, Nat.reduceAdd, Nat.reduceSub, Nat.reduceMul, Int.reduceBEq, Int.reduceBNe, Int.reduceLT, Int.reduceLE, Int.reduceEq, reduceIte, reduceCtorEq, da, int, boolA, dr, f22, f23, g]
    exact hex _ K hs hn hk
  | succ d ih =>
    intro i K f hd hs hn hk f1 f6 f22 f23
    have g1 : ((i : Int) < width) = True := eq_true (by omega)
    have w1 := wrap_succ (show i < 9223372036854775807 by omega)
    have w2 : IntKind.i64.wrap (8 * (i : Int)) = 8 * i := wrap_i64 (by omega)
    have ksh := fun t => @shr_i t n (8 * (i : Int)) (by omega)
    have lid := Heap.get_lt hs
    have ia := fun L => @ia_off (hx K L) sid at' width 1 i false _ (get_old hs L) (by omega)
    have gg := fun L => get_old hs L
    have gs : ∀ L b, (hx K L).set sid b = hx (K.set sid b) L := fun L b => hx_set_old K L b sid lid
    have hl : (bytesN n i).length = i := bytesN_len n i
    have gk : ((wrM bs at' (bytesN n i)).map byteC)[at' + i]? = some (byteC ((wrM bs at' (bytesN n i))[at' + i]'(by rw [wrM_len (by omega)]; omega))) := by
      rw [List.getElem?_map, List.getElem?_eq_getElem (by rw [wrM_len (by omega)]; omega)]; rfl
    have hset : ((wrM bs at' (bytesN n i)).map byteC).set (at' + i) [.sc (.int .u8 (byteAt n i))] = (wrM bs at' (bytesN n (i + 1))).map byteC := by
      rw [show [.sc (.int .u8 (byteAt n i))] = byteC (byteAt n i) from rfl, ← List.map_set, bytesN_succ]
      congr 1
      have := wrM_snoc (bs := bs) (l := bytesN n i) (a := at') (x := byteAt n i) (by omega)
      rw [hl] at this
      exact this
    rw [AW_loop]
    unfold c88L0
    simp only [byteC] at gk
    simp only [↓vp, vz, Nat.reduceLT, Nat.reduceEqDiff, Nat.reduceLeDiff, Nat.reduceAdd, Nat.reduceSub, Nat.reduceMul, Int.reduceBEq, Int.reduceBNe, Int.reduceLT, Int.reduceLE, Int.reduceEq, reduceIte, reduceCtorEq, da, int, boolA, dr, f1, f6, f22, f23, g1, w1, w2, ksh, ia, gg, gk, gs]
    rw [show IntKind.u8.wrap (shrM n (8 * i)) = byteAt n i from rfl, hset]
    refine ih (i + 1) _ _ (by omega) (Heap.get_set_self _ lid) (by rw [Heap.next_set]; exact hn) (fun j hj => by rw [Heap.get_set_ne _ hj]; exact hk j hj) ?_ ?_ ?_ ?_ <;> simp only [↓vp, vz, Nat.reduceLT, Nat.reduceEqDiff, Nat.reduceLeDiff, Nat.reduceAdd, Nat.reduceSub, Nat.reduceMul, Int.reduceBEq, Int.reduceBNe, Int.reduceLT, Int.reduceLE, Int.reduceEq, reduceIte, reduceCtorEq, da, int, boolA, f1, f6, f22]
end
structure WrH (K : Heap) (wid sid : Nat) (bs : List Int) (a : Nat) (sp : Bool) : Prop where
 box : K.get wid = some (curB (.sl sid 0 bs.length) a sp)
 row : K.get sid = some (.row false 1 (bs.map byteC))
 le : a ≤ bs.length
 small : bs.length ≤ 1000000
structure WFr (wid sid : Nat) (K K' : Heap) : Prop where
 next : K'.next = K.next
 eq : ∀ j,j ≠ wid → j ≠ sid → K'.get j = K.get j
theorem WFr.refl (wid sid : Nat) (K : Heap) : WFr wid sid K K:=⟨rfl,fun _ _ _ => rfl⟩
theorem WFr.trans {wid sid : Nat} {K K' K'' : Heap} (h : WFr wid sid K K') (h' : WFr wid sid K' K'') : WFr wid sid K K'':=⟨h'.next.trans h.next,fun j a b => (h'.eq j a b).trans (h.eq j a b)⟩
theorem WrH.ne {K : Heap} {wid sid : Nat} {bs : List Int} {a : Nat} {sp : Bool} (h : WrH K wid sid bs a sp) : wid ≠ sid:=fun e => by
 have:=h.row
 rw [← e,h.box] at this
 cases this
section
variable {K : Heap} {wid sid : Nat} {bs : List Int} {a : Nat} {sp : Bool} (hw : WrH K wid sid bs a sp) {n width : Int} {Q : AV → Heap → Prop}
include hw
theorem o88 (hf : fitsM n width = true) (hsp : sp = false) (hr : (a : Int) + width ≤ bs.length) (hq : ∀ K',WrH K' wid sid (wrM bs a (bytesN n width.toNat)) (a + width.toNat) false → WFr wid sid K K' → Q (.tup []) K') : KW ftG (.fn (.func 88) [] []) [.ptr wid 0 0,int n,int width] K Q:=by
 subst hsp
 have h1 : width ≥ 1:=by unfold fitsM at hf; simp at hf; omega
 obtain ⟨m,rfl⟩ : ∃ m : Nat,width = m:=⟨width.toNat,by omega⟩
 rw [Int.toNat_natCast] at hq
 have hle:=hw.le
 have hsm:=hw.small
 have kf:=fun K L Q => @k117 n (m : Int) K L Q
 rw [hf] at kf
 have lid:=Heap.get_lt hw.box
 have hs : sliceA (hx (K.set wid (curB (.sl sid 0 bs.length) ((a : Int) + m) false)) []) 1 (.sl sid 0 bs.length) (some (a : Int)) (some ((a : Int) + m)) none = some (.sl sid a m):=by
  have hg : (hx (K.set wid (curB (.sl sid 0 bs.length) ((a : Int) + m) false)) []).get sid = some (.row false 1 (bs.map byteC)):=get_old (by rw [Heap.get_set_ne _ hw.ne.symm]; exact hw.row) _
  unfold sliceA
  simp only [hg]
  have : boundsS bs.length ((bs.map byteC).length - 0) (some (a : Int)) (some ((a : Int) + m)) none = some (a,a + m):=by
   unfold boundsS
   simp
   omega
  rw [if_pos ⟨trivial,by simp⟩,this]
  simp
  omega
 refine call_W rfl (by simp) ?_
 unfold c88 r88
 simp only [int,boolA] at kf
 simp only [↓vp,vz,Nat.reduceLT,Nat.reduceEqDiff,Nat.reduceLeDiff,Nat.reduceAdd,Nat.reduceSub,Nat.reduceMul,Int.reduceBEq,Int.reduceBNe,Int.reduceLT,Int.reduceLE,Int.reduceEq,reduceIte,reduceCtorEq,da,int,boolA,dr,kf]
 rw [hx_nil]
 refine o106b (len:=bs.length) hw.box (fun H => rfl) (by omega) (by omega) hsm (by unfold nextOk; rw [decide_eq_false (by omega),decide_eq_false (by omega)]; rfl) hs ?_
 have hK1 : (K.set wid (curB (.sl sid 0 bs.length) ((a : Int) + m) false)).get sid = some (.row false 1 (bs.map byteC)):=by rw [Heap.get_set_ne _ hw.ne.symm]; exact hw.row
 have hnx : (K.set wid (curB (.sl sid 0 bs.length) ((a : Int) + m) false)).next = K.next:=Heap.next_set _ _ _
 have hbox : (K.set wid (curB (.sl sid 0 bs.length) ((a : Int) + m) false)).get wid = some (curB (.sl sid 0 bs.length) ((a : Int) + m) false):=Heap.get_set_self _ lid
 have heq : ∀ j,j ≠ wid → (K.set wid (curB (.sl sid 0 bs.length) ((a : Int) + m) false)).get j = K.get j:=fun j h => Heap.get_set_ne _ h
 generalize K.set wid (curB (.sl sid 0 bs.length) ((a : Int) + m) false) = K1 at *
 rw [← hx_nil K1]
 have ln : ∀ H,lenV H 0 (.sl sid a m) = some (.sc (.int .i64 (m : Int)),H):=fun _ => rfl
 simp only [↓vp,vz,Nat.reduceLT,Nat.reduceEqDiff,Nat.reduceLeDiff,Nat.reduceAdd,Nat.reduceSub,Nat.reduceMul,Int.reduceBEq,Int.reduceBNe,Int.reduceLT,Int.reduceLE,Int.reduceEq,reduceIte,reduceCtorEq,da,int,boolA,dr,ln]
 refine l88 (sid:=sid) (bs:=bs) (n:=n) (at':=a) (width:=m) (by omega) hsm K1 (fun f' K2 h2 h3 h4 => ?_) m 0 K1 _ (by simp) (by rw [show bytesN n 0 = [] from rfl,wrM_nil]; exact hK1) rfl (fun _ _ => rfl) ?_ ?_ ?_ ?_
 ·simp only [↓vp,vz,Nat.reduceLT,Nat.reduceEqDiff,Nat.reduceLeDiff,Nat.reduceAdd,Nat.reduceSub,Nat.reduceMul,Int.reduceBEq,Int.reduceBNe,Int.reduceLT,Int.reduceLE,Int.reduceEq,reduceIte,reduceCtorEq,da,int,boolA,rw0]
  rw [hx_nil]
  have hl : (wrM bs a (bytesN n m)).length = bs.length:=wrM_len (by rw [bytesN_len]; omega)
  refine hq K2 ⟨?_,h2,by rw [hl]; omega,by rw [hl]; omega⟩ ⟨by rw [h3,hnx],fun j j1 j2 => by rw [h4 j j2,heq j j1]⟩
  rw [hl,h4 wid hw.ne,hbox]
  rfl
 ·simp only [↓vp,vz,Nat.reduceLT,Nat.reduceEqDiff,Nat.reduceLeDiff,Nat.reduceAdd,Nat.reduceSub,Nat.reduceMul,Int.reduceBEq,Int.reduceBNe,Int.reduceLT,Int.reduceLE,Int.reduceEq,reduceIte,reduceCtorEq,da,int,boolA]
 ·simp only [↓vp,vz,Nat.reduceLT,Nat.reduceEqDiff,Nat.reduceLeDiff,Nat.reduceAdd,Nat.reduceSub,Nat.reduceMul,Int.reduceBEq,Int.reduceBNe,Int.reduceLT,Int.reduceLE,Int.reduceEq,reduceIte,reduceCtorEq,da,int,boolA]
 ·simp only [↓vp,vz,Nat.reduceLT,Nat.reduceEqDiff,Nat.reduceLeDiff,Nat.reduceAdd,Nat.reduceSub,Nat.reduceMul,Int.reduceBEq,Int.reduceBNe,Int.reduceLT,Int.reduceLE,Int.reduceEq,reduceIte,reduceCtorEq,da,int,boolA]
 ·simp only [↓vp,vz,Nat.reduceLT,Nat.reduceEqDiff,Nat.reduceLeDiff,Nat.reduceAdd,Nat.reduceSub,Nat.reduceMul,Int.reduceBEq,Int.reduceBNe,Int.reduceLT,Int.reduceLE,Int.reduceEq,reduceIte,reduceCtorEq,da,int,boolA]
  try rfl
theorem o118 {l : List Int} (hsp : sp = false) (hne : l ≠ []) (hr : a + l.length ≤ bs.length) (hq : ∀ K',WrH K' wid sid (wrM bs a l) (a + l.length) false → WFr wid sid K K' → Q (.tup []) K') : KW ftG (.fn (.func 118) [] []) [.ptr wid 0 0,encB l] K Q:=by
 subst hsp
 have hle:=hw.le
 have hsm:=hw.small
 have lid:=Heap.get_lt hw.box
 have lsd:=Heap.get_lt hw.row
 have hg : (hx (K.set wid (curB (.sl sid 0 bs.length) ((a : Int) + l.length) false)) []).get sid = some (.row false 1 (bs.map byteC)):=get_old (by rw [Heap.get_set_ne _ hw.ne.symm]; exact hw.row) _
 have hpos : 0 < l.length:=List.length_pos_iff.2 hne
 have hs : sliceA (hx (K.set wid (curB (.sl sid 0 bs.length) ((a : Int) + l.length) false)) []) 1 (.sl sid 0 bs.length) (some (a : Int)) (some ((a : Int) + l.length)) none = some (.sl sid a l.length):=by
  unfold sliceA
  simp only [hg]
  have : boundsS bs.length ((bs.map byteC).length - 0) (some (a : Int)) (some ((a : Int) + l.length)) none = some (a,a + l.length):=by
   unfold boundsS
   simp
   omega
  rw [if_pos ⟨trivial,by simp⟩,this]
  simp only [Option.map_some,Option.isSome_none,Bool.false_eq_true,if_false,Nat.zero_add,Nat.add_sub_cancel_left]
  rw [if_neg (by omega)]
 have lB : ∀ H,lenV H 0 (encB l) = some (.sc (.int .i64 (l.length : Int)),H):=fun H => by simp [lenV,lenOfA,encB]
 have rB : ∀ H,rowsOf H (encB l) = some (l.map byteC):=fun _ => rfl
 refine call_W rfl (by simp) ?_
 unfold c118 r118
 simp only [↓vp,vz,Nat.reduceLT,Nat.reduceEqDiff,Nat.reduceLeDiff,Nat.reduceAdd,Nat.reduceSub,Nat.reduceMul,Int.reduceBEq,Int.reduceBNe,Int.reduceLT,Int.reduceLE,Int.reduceEq,reduceIte,reduceCtorEq,da,int,boolA,dr,lB]
 rw [hx_nil]
 refine o106b (len:=bs.length) hw.box (fun H => rfl) (by omega) (by omega) hsm (by unfold nextOk; rw [decide_eq_false (by omega),decide_eq_false (by omega)]; rfl) hs ?_
 rw [← hx_nil (K.set wid _)]
 rw [hx_nil] at hg
 have hnx : (K.set wid (curB (.sl sid 0 bs.length) ((a : Int) + l.length) false)).next = K.next:=Heap.next_set _ _ _
 have hbox : (K.set wid (curB (.sl sid 0 bs.length) ((a : Int) + l.length) false)).get wid = some (curB (.sl sid 0 bs.length) ((a : Int) + l.length) false):=Heap.get_set_self _ lid
 have heq : ∀ j,j ≠ wid → (K.set wid (curB (.sl sid 0 bs.length) ((a : Int) + l.length) false)).get j = K.get j:=fun j h => Heap.get_set_ne _ h
 generalize K.set wid (curB (.sl sid 0 bs.length) ((a : Int) + l.length) false) = K1 at *
 have hcp : copyA (hx K1 []) 1 (.sl sid a l.length) (l.map byteC) = some (l.length,hx (K1.set sid (.row false 1 ((wrM bs a l).map byteC))) []):=by
  unfold copyA
  rw [hx_nil,hx_nil]
  simp only [hg]
  have h1 : allSz 1 (l.map byteC) = true:=by
   unfold allSz
   rw [List.all_eq_true]
   intro x hx
   obtain ⟨y,-,rfl⟩:=List.mem_map.1 hx
   rfl
  rw [if_pos ⟨trivial,by rw [List.length_map]; omega,h1⟩,List.length_map,Nat.min_self,List.take_of_length_le (by rw [List.length_map]; omega)]
  unfold splice wrM
  simp only [List.map_append,List.map_take,List.map_drop,List.length_map]
 simp only [↓vp,vz,Nat.reduceLT,Nat.reduceEqDiff,Nat.reduceLeDiff,Nat.reduceAdd,Nat.reduceSub,Nat.reduceMul,Int.reduceBEq,Int.reduceBNe,Int.reduceLT,Int.reduceLE,Int.reduceEq,reduceIte,reduceCtorEq,da,int,boolA,dr,rB,hcp,rw0]
 rw [hx_nil]
 have hl : (wrM bs a l).length = bs.length:=wrM_len hr
 have ls1:=Heap.get_lt hg
 refine hq _ ⟨?_,Heap.get_set_self _ ls1,by rw [hl]; omega,by rw [hl]; omega⟩ ⟨by rw [Heap.next_set,hnx],fun j j1 j2 => by rw [Heap.get_set_ne _ j2,heq j j1]⟩
 rw [hl,Heap.get_set_ne _ hw.ne,hbox]
 rfl
theorem o89 (hsp : sp = false) (hq : Q (.tup [encB bs,int 0]) (K.set sid (.row true 1 (bs.map byteC)))) : KW ftG (.fn (.func 89) [] []) [.ptr wid 0 0] K Q:=by
 subst hsp
 have y0:=fun L => get_old hw.box L
 have lsd:=Heap.get_lt hw.row
 have hg:=fun L => get_old hw.row L
 have gs : ∀ L b,(hx K L).set sid b = hx (K.set sid b) L:=fun L b => hx_set_old K L b sid lsd
 have hsm:=hw.small
 have k104 : ∀ L Q,KW ftG (.fn (.func 104) [] []) [.sl sid 0 bs.length] (hx K L) Q ↔ Q (encB bs) (hx (K.set sid (.row true 1 (bs.map byteC))) L):=fun L Q => by
  refine KW_of (call_pprim (as':=[encB bs]) (p:=cloF 1 1) rfl ?_ ?_)
  ·exact frz_bytes hw.row L
  ·exact cloB_val _ hsm
 unfold curB at y0
 simp only [int,boolA] at y0
 refine call_W rfl (by simp) ?_
 unfold c89 r89
 simp only [↓vp,vz,Nat.reduceLT,Nat.reduceEqDiff,Nat.reduceLeDiff,Nat.reduceAdd,Nat.reduceSub,Nat.reduceMul,Int.reduceBEq,Int.reduceBNe,Int.reduceLT,Int.reduceLE,Int.reduceEq,reduceIte,reduceCtorEq,da,int,boolA,dr,y0,k104,rw2]
 rw [hx_nil]
 exact hq
end
theorem o87 {K : Heap} {size : Nat} (h : size ≤ 65536) {Q : AV → Heap → Prop} (hq : Q (.ptr (K.next + 1) 0 0) (hx K [.row false 1 ((List.replicate size (0 : Int)).map byteC),curB (.sl K.next 0 size) 0 false])) : KW ftG (.fn (.func 87) [] []) [int size] K Q:=by
 refine call_W rfl (by simp) ?_
 unfold c87 r87
 have d1 : ((size : Int) < 0) = False:=eq_false (by omega)
 have d2 : ((size : Int) > 65536) = False:=eq_false (by omega)
 have d3 : (65536 < (size : Int)) = False:=eq_false (by omega)
 simp only [↓vp,vz,Nat.reduceLT,Nat.reduceEqDiff,Nat.reduceLeDiff,Nat.reduceAdd,Nat.reduceSub,Nat.reduceMul,Int.reduceBEq,Int.reduceBNe,Int.reduceLT,Int.reduceLE,Int.reduceEq,reduceIte,reduceCtorEq,da,int,boolA,dr,d1,d2,d3,rw1]
 rw [if_pos (by omega),Int.toNat_natCast]
 rw [List.map_replicate] at hq
 exact hq
theorem o60 {K : Heap} {bs : List Int} (h : bs.length ≤ 1000000) {Q : AV → Heap → Prop} (hq : Q (.ptr K.next 0 0) (hx K [curB (encB bs) 0 false])) : KW ftG (.fn (.func 60) [] []) [encB bs] K Q:=by
 have k104 : ∀ L Q,KW ftG (.fn (.func 104) [] []) [encB bs] (hx K L) Q ↔ Q (encB bs) (hx K L):=fun L Q => KW_of (call_pprim (as':=[encB bs]) (p:=cloF 1 1) rfl rfl (cloB_val _ h))
 refine call_W rfl (by simp) ?_
 unfold c60 r60
 simp only [↓vp,vz,Nat.reduceLT,Nat.reduceEqDiff,Nat.reduceLeDiff,Nat.reduceAdd,Nat.reduceSub,Nat.reduceMul,Int.reduceBEq,Int.reduceBNe,Int.reduceLT,Int.reduceLE,Int.reduceEq,reduceIte,reduceCtorEq,da,int,boolA,dr,k104,rw1]
 exact hq
theorem o62 {K : Heap} {cid : Nat} {V : AV} {a : Int} {sp : Bool} (hb : K.get cid = some (curB V a sp)) {Q : AV → Heap → Prop} : KW ftG (.fn (.func 62) [] []) [.ptr cid 0 0] K Q ↔ Q (int (if sp = true then 30 else 0)) K:=by
 have y0:=fun L => get_old hb L
 unfold curB at y0
 simp only [int,boolA] at y0
 refine KW_of (call_o rfl (by simp) ?_)
 unfold c62 r62 RetO
 cases sp with
 | true =>
  simp only [↓vp,vz,Nat.reduceLT,Nat.reduceEqDiff,Nat.reduceLeDiff,Nat.reduceAdd,Nat.reduceSub,Nat.reduceMul,Int.reduceBEq,Int.reduceBNe,Int.reduceLT,Int.reduceLE,Int.reduceEq,reduceIte,reduceCtorEq,da,int,boolA,dr,y0,resultsA,resT,resN]
  exact hx_nil K
 | false =>
  simp only [↓vp,vz,Nat.reduceLT,Nat.reduceEqDiff,Nat.reduceLeDiff,Nat.reduceAdd,Nat.reduceSub,Nat.reduceMul,Int.reduceBEq,Int.reduceBNe,Int.reduceLT,Int.reduceLE,Int.reduceEq,reduceIte,reduceCtorEq,da,int,boolA,dr,y0,resultsA,resT,resN]
  exact hx_nil K
end Go.VI
namespace Go.VI
attribute [local congr] AW_congr OW_congr DW_congr NW_congr VW_congr GW_congr PW_congr KW_congr ite_congr' GV_congr CV_congr KF_congr
theorem AW_rangeF {ft : FT} {f : Operand} {ps : List Nat} {asg body : ACode} {e : Env} {H : Heap} {Q : AExit → Env → Heap → Prop} (hg : isGo ft (ev e f) = true)
  (h : KW ft (ev e f) [.yld H.next] (H.push (.loop .ready e ps asg body none)) fun _ H1 => ∃ x e' H',rangeE H.next e H1 = some (x,e',H') ∧ Q x e' H') : AW ft (.rangeF f ps asg body) e H Q:=by
 obtain ⟨v,H1,h1,x,e',H',h2,h3⟩:=h
 refine ⟨x,e',H',?_,h3⟩
 rw [execL_rangeF,if_pos hg,h1]
 exact h2
theorem yld_gen {ft : FT} {id : Nat} {K : Heap} {args : List AV} {e : Env} {ps : List Nat} {asg body : ACode} {R : Heap → Prop} (hg : K.get id = some (.loop .ready e ps asg body none)) (hl : args.length = ps.length)
  (h : AW ft asg (setAll e ps args) K fun x e1 H1 => x = .normal ∧ H1.get id = some (.loop .ready e ps asg body none) ∧ AW ft body e1 (H1.set id (.loop .busy e ps asg body none)) fun x _ H2 => x = .normal ∧ H2.get id = some (.loop .busy e ps asg body none) ∧ R (H2.set id (.loop .ready e ps asg body none))) :
  KW ft (.yld id) args K fun v K' => v = .sc (.bool true) ∧ R K':=by
 obtain ⟨x,e1,H1,h1,rfl,h2,x2,e2,H2,h3,rfl,h4,h5⟩:=h
 refine ⟨.sc (.bool true),_,?_,rfl,h5⟩
 show roundA (execL ft) id args K = _
 unfold roundA
 rw [hg]
 simp only
 rw [if_pos hl,h1]
 simp only [Option.bind_some,if_true]
 have hb : roundB id H1 = some (H1.set id (.loop .busy e ps asg body none)):=by unfold roundB; rw [h2]
 rw [hb]
 simp only [Option.bind_some,h3]
 unfold roundE
 rw [h4]
 rfl
theorem call_Wc {ft : FT} {k : FuncId} {caps args : List AV} {K : Heap} {n : Nat} {rs : List ARes} {body : ACode} {P : AV → Heap → Prop} (hk : ft k = some (.go false n rs body)) (hl : (args ++ caps).length ≤ n)
  (h : AW ft body (mkE n (ofL (args ++ caps))) (hx K []) (RetW rs P)) : KW ft (.fn (.func k) [] caps) args K P:=by
 rw [hx_nil] at h
 rw [← enterE_mkE _ _ hl] at h
 obtain ⟨x,e,Hc,h,hx,R,hr,hp⟩:=h
 refine ⟨R,Hc,?_,hp⟩
 rw [callL_fn]
 unfold callF
 simp only [hk,List.nil_append,h,Option.bind_some,if_pos hx,hr,Option.map_some]
def shlU (x : Int) : Int:=IntKind.u64.wrap (x * 2 ^ 8)
def orU (x y : Int) : Int:=IntKind.u64.wrap (BitVec.ofInt 64 x ||| BitVec.ofInt 64 y).toNat
theorem shl_u {t : TypeId} {x : Int} : binA .shl t (.sc (.int .u64 x)) (.sc (.int .u64 8)) = some (.sc (.int .u64 (shlU x))):=rfl
theorem or_u {t : TypeId} {x y : Int} : binA .or t (.sc (.int .u64 x)) (.sc (.int .u64 y)) = some (.sc (.int .u64 (orU x y))):=rfl
def valM (l : List Int) : Int:=l.foldr (fun c n => orU (shlU n) (IntKind.u64.wrap c)) 0
theorem o105 {V : AV} {K : Heap} {Q : AV → Heap → Prop} (hv : V.one = true) (hc : V.cells = [V]) : KW ftG (.fn (.func 105) [] []) [V] K Q ↔ Q (.fn (.func 126) [] [.ptr K.next 0 0]) (hx K [.box false [V]]):=by
 refine KW_of (call_o rfl (by simp) ?_)
 unfold c105 r105 RetO
 simp only [↓vp,vz,Nat.reduceLT,Nat.reduceEqDiff,Nat.reduceLeDiff,Nat.reduceAdd,Nat.reduceSub,Nat.reduceMul,Int.reduceBEq,Int.reduceBNe,Int.reduceLT,Int.reduceLE,Int.reduceEq,reduceIte,reduceCtorEq,da,int,boolA,dr,hv,hc,resultsA,resT,resN]
section
variable {bs : List Int} (hlen : bs.length ≤ 1000000) {id bx : Nat} {J : Nat → Heap → Prop}
   (hbox : ∀ k K, J k K → K.get bx = some (.box false [encB bs]))
   (hrun : ∀ (i : Nat) (hi : i < bs.length) K, J (bs.length - 1 - i) K → KW ftG (.yld id) [int i, .sc (.int .u8 bs[i])] K fun v K' => v = .sc (.bool true) ∧ J (bs.length - i) K')
include hlen hbox hrun
theorem l126 {Q : AExit → Env → Heap → Prop} (hex : ∀ f' K, J bs.length K → Q (.exit 0) (mkE 19 f') (hx K [])) :
   ∀ (i : Nat) (K : Heap) (f : Nat → AV), i ≤ bs.length → J (bs.length - i) K → f 0 = .yld id → f 1 = .ptr bx 0 0 → f 3 = int ((i : Int) - 1) →
    AW ftG (.loop c126L0) (mkE 19 f) (hx K []) Q := by
  intro i
  induction i with
  | zero =>
    intro K f hi hJ f0 f1 f3
    have g : (((0 : Nat) : Int) - 1 ≥ 0) = False := eq_false (by omega)
    have g' : (0 ≤ ((0 : Nat) : Int) - 1) = False := eq_false (by omega)
    rw [AW_loop]
    unfold c126L0
    simp only [↓vp, vz, Nat.reduceLT, Nat.reduceEqDiff, Nat.reduceLeDiff, Nat.reduceAdd, Nat.reduceSub, Nat.reduceMul, Int.reduceBEq, Int.reduceBNe, Int.reduceLT, Int.reduceLE, Int.reduceEq, reduceIte, reduceCtorEq, da, int, boolA, dr, f3, g, g']
    exact hex _ K hJ
  | succ j ih =>
    intro K f hi hJ f0 f1 f3
    have e3 : (((j + 1 : Nat) : Int) - 1) = (j : Int) := by omega
    rw [e3] at f3
    have g : ((j : Int) ≥ 0) = True := eq_true (by omega)
    have g' : (0 ≤ (j : Int)) = True := eq_true (by omega)
    have w1 : IntKind.i64.wrap ((j : Int) - 1) = (j : Int) - 1 := wrap_i64 (by omega)
    have y0 := fun L => get_old (hbox _ _ hJ) L
    have gj : j < bs.length := by omega
    have a0 := fun H => @atB H bs j gj
    have b0 := fun H off n => @cB H bs j off n gj
    simp only [byteC] at b0
    rw [AW_loop]
    unfold c126L0
    simp only [↓vp, vz, Nat.reduceLT, Nat.reduceEqDiff, Nat.reduceLeDiff, Nat.reduceAdd, Nat.reduceSub, Nat.reduceMul, Int.reduceBEq, Int.reduceBNe, Int.reduceLT, Int.reduceLE, Int.reduceEq, reduceIte, reduceCtorEq, da, int, boolA, dr, f0, f1, f3, g, g', y0, a0, b0, w1]
    rw [hx_nil]
    have := hrun j gj K (by rw [show bs.length - 1 - j = bs.length - (j + 1) by omega]; exact hJ)
    obtain ⟨v, K', h1, rfl, h2⟩ := this
    simp only [int] at h1
    rw [KW_of h1, ← hx_nil K']
    simp only [↓vp, vz, Nat.reduceLT, Nat.reduceEqDiff, Nat.reduceLeDiff, Nat.reduceAdd, Nat.reduceSub, Nat.reduceMul, Int.reduceBEq, Int.reduceBNe, Int.reduceLT, Int.reduceLE, Int.reduceEq, reduceIte, reduceCtorEq, da, int, boolA, dr, f3, w1]
    refine ih K' _ (by omega) h2 ?_ ?_ ?_
    all_goals simp only [↓vp, vz, Nat.reduceLT, Nat.reduceEqDiff, Nat.reduceLeDiff, Nat.reduceAdd, Nat.reduceSub, Nat.reduceMul, Int.reduceBEq, Int.reduceBNe, Int.reduceLT, Int.reduceLE, Int.reduceEq, reduceIte, reduceCtorEq, da, int, boolA, f0, f1]
theorem o126 {K : Heap} (hJ : J 0 K) : KW ftG (.fn (.func 126) [] [.ptr bx 0 0]) [.yld id] K fun _ K' => J bs.length K':=by
 have y0:=fun L => get_old (hbox _ _ hJ) L
 have ln : ∀ H,lenV H 0 (encB bs) = some (.sc (.int .i64 (bs.length : Int)),H):=fun H => by simp [lenV,lenOfA,encB]
 have w1 : IntKind.i64.wrap ((bs.length : Int) - 1) = (bs.length : Int) - 1:=wrap_i64 (by omega)
 refine call_Wc rfl (by simp) ?_
 unfold c126 r126
 simp only [↓vp,vz,Nat.reduceLT,Nat.reduceEqDiff,Nat.reduceLeDiff,Nat.reduceAdd,Nat.reduceSub,Nat.reduceMul,Int.reduceBEq,Int.reduceBNe,Int.reduceLT,Int.reduceLE,Int.reduceEq,reduceIte,reduceCtorEq,da,int,boolA,dr,y0,ln,w1]
 refine l126 hlen hbox hrun (fun f' K' h => ?_) bs.length K _ (Nat.le_refl _) (by rw [Nat.sub_self]; exact hJ) ?_ ?_ ?_
 ·simp only [↓vp,vz,Nat.reduceLT,Nat.reduceEqDiff,Nat.reduceLeDiff,Nat.reduceAdd,Nat.reduceSub,Nat.reduceMul,Int.reduceBEq,Int.reduceBNe,Int.reduceLT,Int.reduceLE,Int.reduceEq,reduceIte,reduceCtorEq,da,int,boolA,dr,rw0]
  rw [hx_nil]
  exact h
 all_goals simp only [↓vp,vz,Nat.reduceLT,Nat.reduceEqDiff,Nat.reduceLeDiff,Nat.reduceAdd,Nat.reduceSub,Nat.reduceMul,Int.reduceBEq,Int.reduceBNe,Int.reduceLT,Int.reduceLE,Int.reduceEq,reduceIte,reduceCtorEq,da,int,boolA]
end
theorem valM_step {l : List Int} {i : Nat} (h : i < l.length) : valM (l.drop i) = orU (shlU (valM (l.drop (i + 1)))) (IntKind.u64.wrap l[i]):=by
 rw [List.drop_eq_getElem_cons h]
 rfl
section
variable {n nb : Nat} {f : Nat → AV} {l : List Int} (hlen : l.length ≤ 1000000) (h5 : f 5 = .ptr nb 0 0) (hn : n = 49)
include hlen h5 hn
theorem range61 {K : Heap} {bx : Nat} (hb : K.get bx = some (.box false [encB l])) (hnb : K.get nb = some (.box false [.sc (.int .u64 0)])) (hne : nb ≠ bx) (h23 : f 23 = .fn (.func 126) [] [.ptr bx 0 0]) {Q : AExit → Env → Heap → Prop}
  (hq : ∀ K',K'.get nb = some (.box false [.sc (.int .u64 (valM l))]) → K'.next = K.next + 1 → (∀ j,j < K.next → j ≠ nb → K'.get j = K.get j) → Q .normal (mkE n f) K') : AW ftG (.rangeF (.tmp 23) [24,25] c61A0 c61B0) (mkE n f) K Q:=by
 subst hn
 have lb:=Heap.get_lt hb
 have lnb:=Heap.get_lt hnb
 have hev : ev (mkE 49 f) (.tmp 23) = .fn (.func 126) [] [.ptr bx 0 0]:=by rw [ev_tmp,if_pos (by decide),h23]
 refine AW_rangeF (by rw [hev]; rfl) ?_
 rw [hev]
 have hlp : (K.push (.loop .ready (mkE 49 f) [24,25] c61A0 c61B0 none)).get K.next = some (.loop .ready (mkE 49 f) [24,25] c61A0 c61B0 none):=by simp
 let J : Nat → Heap → Prop:=fun k G => G.get K.next = some (.loop .ready (mkE 49 f) [24,25] c61A0 c61B0 none) ∧ G.get nb = some (.box false [.sc (.int .u64 (valM (l.drop (l.length - k))))]) ∧ G.next = K.next + 1 ∧ ∀ j,j < K.next → j ≠ nb → G.get j = K.get j
 have hJ0 : J 0 (K.push (.loop .ready (mkE 49 f) [24,25] c61A0 c61B0 none)):=⟨hlp,by rw [Heap.get_push_old _ _ _ lnb,Nat.sub_zero,List.drop_length]; exact hnb,by simp,fun j hj _ => Heap.get_push_old _ _ _ hj⟩
 obtain ⟨v,K',h1,h2⟩:=o126 (bs:=l) hlen (id:=K.next) (bx:=bx) (J:=J) (fun k G hG => by rw [hG.2.2.2 bx lb hne.symm]; exact hb) (fun i hi G hG => by
  obtain ⟨g1,g2,g3,g4⟩:=hG
  have e1 : l.length - (l.length - 1 - i) = i + 1:=by omega
  have e2 : l.length - (l.length - i) = i:=by omega
  rw [e1] at g2
  have l1:=Heap.get_lt g1
  have l2:=Heap.get_lt g2
  have nn : nb ≠ K.next:=by omega
  refine yld_gen g1 rfl ?_
  have hs : setAll (mkE 49 f) [24,25] [int i,.sc (.int .u8 l[i])] = mkE 49 (upd (upd f 24 (int i)) 25 (.sc (.int .u8 l[i]))):=by
   show putA (putA (mkE 49 f) (some 24) (int i)) (some 25) (.sc (.int .u8 l[i])) = _
   rw [putA_mkE,putA_mkE]
  rw [hs]
  unfold c61A0
  rw [← hx_nil G]
  simp only [↓vp,vz,Nat.reduceLT,Nat.reduceEqDiff,Nat.reduceLeDiff,Nat.reduceAdd,Nat.reduceSub,Nat.reduceMul,Int.reduceBEq,Int.reduceBNe,Int.reduceLT,Int.reduceLE,Int.reduceEq,reduceIte,reduceCtorEq,da,int,boolA,dr]
  rw [hx_nil]
  refine ⟨g1,?_⟩
  have q2 : (G.set K.next (.loop .busy (mkE 49 f) [24,25] c61A0 c61B0 none)).get nb = some (.box false [.sc (.int .u64 (valM (l.drop (i + 1))))]):=by rw [Heap.get_set_ne _ nn]; exact g2
  have q1 : (G.set K.next (.loop .busy (mkE 49 f) [24,25] c61A0 c61B0 none)).get K.next = some (.loop .busy (mkE 49 f) [24,25] c61A0 c61B0 none):=Heap.get_set_self _ l1
  have q3 : (G.set K.next (.loop .busy (mkE 49 f) [24,25] c61A0 c61B0 none)).next = K.next + 1:=by rw [Heap.next_set]; exact g3
  have q4 : ∀ j,j < K.next → j ≠ nb → (G.set K.next (.loop .busy (mkE 49 f) [24,25] c61A0 c61B0 none)).get j = K.get j:=fun j hj hjn => by rw [Heap.get_set_ne _ (by omega)]; exact g4 j hj hjn
  have e0 : c61A0 = (.region [⟨(some 7),(.mov (.tmp 25)),none⟩] false []):=rfl
  rw [e0] at q1 q2 q3 q4
  generalize G.set K.next (.loop .busy (mkE 49 f) [24,25] (.region [⟨(some 7),(.mov (.tmp 25)),none⟩] false []) c61B0 none) = G1 at *
  have y0:=fun L => get_old q2 L
  have gs : ∀ L b,(hx G1 L).set nb b = hx (G1.set nb b) L:=fun L b => hx_set_old _ L b nb (by omega)
  rw [← hx_nil G1]
  unfold c61B0
  simp only [↓vp,vz,Nat.reduceLT,Nat.reduceEqDiff,Nat.reduceLeDiff,Nat.reduceAdd,Nat.reduceSub,Nat.reduceMul,Int.reduceBEq,Int.reduceBNe,Int.reduceLT,Int.reduceLE,Int.reduceEq,reduceIte,reduceCtorEq,da,int,boolA,dr,h5,y0,gs,shl_u,or_u]
  rw [hx_nil]
  refine ⟨by rw [Heap.get_set_ne _ nn.symm]; exact q1,Heap.get_set_self _ (by rw [Heap.next_set]; omega),?_,by rw [Heap.next_set,Heap.next_set]; exact q3,fun j hj hjn => ?_⟩
  ·rw [Heap.get_set_ne _ nn,Heap.get_set_self _ (by omega),e2,valM_step hi]
  ·rw [Heap.get_set_ne _ (by omega),Heap.get_set_ne _ hjn]
   exact q4 j hj hjn) hJ0
 obtain ⟨k1,k2,k3,k4⟩:=h2
 rw [Nat.sub_self,List.drop_zero] at k2
 refine ⟨v,K',h1,.normal,mkE 49 f,K'.set K.next .dead,?_,?_⟩
 ·unfold rangeE
  rw [k1]
 ·exact hq _ (by rw [Heap.get_set_ne _ (by omega)]; exact k2) (by rw [Heap.next_set]; exact k3) fun j hj hjn => by rw [Heap.get_set_ne _ (by omega)]; exact k4 j hj hjn
end
def partB (bs : List Int) (a w : Nat) : List Int:=(bs.drop a).take w
theorem partB_len {bs : List Int} {a w : Nat} (h : a + w ≤ bs.length) : (partB bs a w).length = w:=by
 unfold partB
 rw [List.length_take,List.length_drop]
 omega
theorem slice_lst {H : Heap} {bs : List Int} {a w : Nat} (h : a + w ≤ bs.length) : sliceA H 1 (encB bs) (some (a : Int)) (some ((a : Int) + w)) none = some (encB (partB bs a w)):=by
 unfold sliceA encB
 simp only [List.length_map]
 have : boundsA bs.length (some (a : Int)) (some ((a : Int) + w)) none = some (a,a + w):=by
  unfold boundsA
  simp
  omega
 rw [this,Option.bind_some]
 simp only
 rw [if_pos (.inr (bytes_sz bs)),Nat.add_sub_cancel_left]
 unfold partB
 rw [List.map_take,List.map_drop]
theorem o61 {K : Heap} {cid : Nat} {bs : List Int} {a w : Nat} (hb : K.get cid = some (curB (encB bs) a false)) (h1 : 1 ≤ w) (h8 : w ≤ 8) (hr : a + w ≤ bs.length) (hsm : bs.length ≤ 1000000) (hv : valM (partB bs a w) ≤ 9223372036854775807) (hv0 : 0 ≤ valM (partB bs a w)) {Q : AV → Heap → Prop}
  (hq : ∀ K',K'.get cid = some (curB (encB bs) ((a + w : Nat) : Int) false) → K.next ≤ K'.next → (∀ j,j < K.next → j ≠ cid → K'.get j = K.get j) → Q (int (valM (partB bs a w))) K') : KW ftG (.fn (.func 61) [] []) [.ptr cid 0 0,int (w : Nat)] K Q:=by
 have lid:=Heap.get_lt hb
 have d1 : ((w : Int) < 1) = False:=eq_false (by omega)
 have d2 : ((w : Int) > 8) = False:=eq_false (by omega)
 have d2' : (8 < (w : Int)) = False:=eq_false (by omega)
 have hl:=partB_len hr
 refine call_W rfl (by simp) ?_
 unfold c61 r61
 simp only [↓vp,vz,Nat.reduceLT,Nat.reduceEqDiff,Nat.reduceLeDiff,Nat.reduceAdd,Nat.reduceSub,Nat.reduceMul,Int.reduceBEq,Int.reduceBNe,Int.reduceLT,Int.reduceLE,Int.reduceEq,reduceIte,reduceCtorEq,da,int,boolA,dr,d1,d2,d2']
 have hb1 : (hx K [.box false [.sc (.int .u64 0)]]).get cid = some (curB (encB bs) a false):=get_old hb _
 refine o106b (len:=bs.length) hb1 (fun H => by simp [lenV,lenOfA,encB,int]) (by omega) (by omega) hsm (by unfold nextOk; rw [decide_eq_false (by omega),decide_eq_false (by omega)]; rfl) (slice_lst hr) ?_
 have hn1 : ((hx K [.box false [.sc (.int .u64 0)]]).set cid (curB (encB bs) ((a : Int) + w) false)).next = K.next + 1:=by rw [Heap.next_set,hx_next]; rfl
 have hc1 : ((hx K [.box false [.sc (.int .u64 0)]]).set cid (curB (encB bs) ((a : Int) + w) false)).get cid = some (curB (encB bs) ((a : Int) + w) false):=Heap.get_set_self _ (by rw [hx_next]; omega)
 have hnb1 : ((hx K [.box false [.sc (.int .u64 0)]]).set cid (curB (encB bs) ((a : Int) + w) false)).get K.next = some (.box false [.sc (.int .u64 0)]):=by rw [Heap.get_set_ne _ (by omega)]; exact hx_get0 _ _
 have he1 : ∀ j,j < K.next → j ≠ cid → ((hx K [.box false [.sc (.int .u64 0)]]).set cid (curB (encB bs) ((a : Int) + w) false)).get j = K.get j:=fun j hj hjc => by rw [Heap.get_set_ne _ hjc]; exact hx_get_old _ _ _ hj
 generalize (hx K [.box false [.sc (.int .u64 0)]]).set cid (curB (encB bs) ((a : Int) + w) false) = K1 at *
 have oB : (encB (partB bs a w)).one = true:=rfl
 have cB' : (encB (partB bs a w)).cells = [encB (partB bs a w)]:=rfl
 have k105:=fun L Q => @o105 (encB (partB bs a w)) (hx K1 L) Q oB cB'
 rw [← hx_nil K1]
 simp only [↓vp,vz,Nat.reduceLT,Nat.reduceEqDiff,Nat.reduceLeDiff,Nat.reduceAdd,Nat.reduceSub,Nat.reduceMul,Int.reduceBEq,Int.reduceBNe,Int.reduceLT,Int.reduceLE,Int.reduceEq,reduceIte,reduceCtorEq,da,int,boolA,dr,k105,hx_hx]
 refine range61 (l:=partB bs a w) (n:=49) (nb:=K.next) (by omega) ?_ rfl (bx:=K1.next) (hx_get0 _ _) (get_old hnb1 _) (by omega) ?_ (fun K2 z1 z2 z3 => ?_)
 ·simp only [↓vp,vz,Nat.reduceLT,Nat.reduceEqDiff,Nat.reduceLeDiff,Nat.reduceAdd,Nat.reduceSub,Nat.reduceMul,Int.reduceBEq,Int.reduceBNe,Int.reduceLT,Int.reduceLE,Int.reduceEq,reduceIte,reduceCtorEq,da,int,boolA]
 ·simp only [↓vp,vz,Nat.reduceLT,Nat.reduceEqDiff,Nat.reduceLeDiff,Nat.reduceAdd,Nat.reduceSub,Nat.reduceMul,Int.reduceBEq,Int.reduceBNe,Int.reduceLT,Int.reduceLE,Int.reduceEq,reduceIte,reduceCtorEq,da,int,boolA]
 ·have y0:=fun L => get_old z1 L
  have lv : (valM (partB bs a w) > 9223372036854775807) = False:=eq_false (by omega)
  have lv' : (9223372036854775807 < valM (partB bs a w)) = False:=eq_false (by omega)
  have wv : IntKind.i64.wrap (valM (partB bs a w)) = valM (partB bs a w):=wrap_i64 (by omega)
  have e1 : ∀ j,j < K.next → K2.get j = K1.get j:=fun j hj => by rw [z3 j (by rw [hx_next]; omega) (by omega)]; exact hx_get_old _ _ _ (by omega)
  rw [← hx_nil K2]
  simp only [↓vp,vz,Nat.reduceLT,Nat.reduceEqDiff,Nat.reduceLeDiff,Nat.reduceAdd,Nat.reduceSub,Nat.reduceMul,Int.reduceBEq,Int.reduceBNe,Int.reduceLT,Int.reduceLE,Int.reduceEq,reduceIte,reduceCtorEq,da,int,boolA,dr,y0,lv,lv',wv,rw1]
  rw [hx_nil]
  refine hq K2 (by rw [e1 cid lid,hc1]; rfl) (by rw [z2,hx_next]; omega) fun j hj hjc => ?_
  rw [e1 j hj,he1 j hj hjc]
end Go.VI
namespace Go.VI
attribute [local congr] AW_congr OW_congr DW_congr NW_congr VW_congr GW_congr PW_congr KW_congr ite_congr' GV_congr CV_congr KF_congr
structure HeadM where
 kind : Int
 gen : Int
 count : Int
 next : Int
def headC (h : HeadM) : List AV:=[int h.kind,int h.gen,int h.count,int h.next]
def knownM (h : HeadM) : Bool:=decide (h.kind ∈ [76,66,79,70]) && genB h.gen
theorem s63 (h : HeadM) (H : Heap) : callL ftG (.fn (.func 63) [] []) [.agg (headC h)] H = some (boolA (knownM h),H):=by
 refine call_p (as':=[.agg (headC h)]) rfl rfl (by simp) ?_
 unfold c63 r63 headC knownM
 have kg:=fun K L Q => @k46 h.gen K L Q
 have k84 : ∀ B Q,KW ftG (.fn (.func 84) [] []) [.sl 1 0 4,.sc (.int .i64 h.kind)] (hx Heap.empty [B,.row false 1 [[.sc (.int .i64 76)],[.sc (.int .i64 66)],[.sc (.int .i64 79)],[.sc (.int .i64 70)]]]) Q ↔ Q (boolA (decide (h.kind ∈ [76,66,79,70]))) (hx Heap.empty [B,.row true 1 [[.sc (.int .i64 76)],[.sc (.int .i64 66)],[.sc (.int .i64 79)],[.sc (.int .i64 70)]]]) :=
  fun B Q => KW_of (p84 h.kind [76,66,79,70] (by simp) rfl)
 simp only [int,boolA] at kg k84
 by_cases c : h.kind ∈ [(76 : Int),66,79,70]
 ·rw [decide_eq_true c] at k84 ⊢
  simp only [↓vp,vz,Nat.reduceLT,Nat.reduceEqDiff,Nat.reduceLeDiff,Nat.reduceAdd,Nat.reduceSub,Nat.reduceMul,Int.reduceBEq,Int.reduceBNe,Int.reduceLT,Int.reduceLE,Int.reduceEq,reduceIte,reduceCtorEq,da,int,boolA,rt,dr,k84,kg,Bool.true_and]
 ·rw [decide_eq_false c] at k84 ⊢
  simp only [↓vp,vz,Nat.reduceLT,Nat.reduceEqDiff,Nat.reduceLeDiff,Nat.reduceAdd,Nat.reduceSub,Nat.reduceMul,Int.reduceBEq,Int.reduceBNe,Int.reduceLT,Int.reduceLE,Int.reduceEq,reduceIte,reduceCtorEq,da,int,boolA,rt,dr,k84,Bool.false_and]
theorem k63 {h : HeadM} {K : Heap} {L : List Blk} {Q : AV → Heap → Prop} : KW ftG (.fn (.func 63) [] []) [.agg (headC h)] (hx K L) Q ↔ Q (boolA (knownM h)) (hx K L):=KW_of (s63 h _)
def headAt (b : List Int) : HeadM:=⟨valM (partB b 0 1),valM (partB b 1 1),valM (partB b 2 2),valM (partB b (if valM (partB b 1 1) > 1 then 8 else 4) (traitM (valM (partB b 1 1))).2.2.1.toNat)⟩
theorem s28 {b : List Int} (hsm : b.length ≤ 1000000) (h16 : 16 ≤ b.length) (hk : knownM (headAt b) = true)
  (v0 : 0 ≤ (headAt b).kind ∧ (headAt b).kind ≤ 255) (v2 : 0 ≤ (headAt b).count ∧ (headAt b).count ≤ 65535) (v3 : 0 ≤ (headAt b).next ∧ (headAt b).next ≤ 9223372036854775807) (h1 : (headAt b).gen = 1) (H : Heap) :
  callL ftG (.fn (.func 28) [] []) [encB b] H = some (.tup [.agg (headC (headAt b)),int 0],H):=by
 refine call_p (as':=[encB b]) rfl rfl (by simp) ?_
 unfold c28 r28
 simp only [↓vp,vz,Nat.reduceLT,Nat.reduceEqDiff,Nat.reduceLeDiff,Nat.reduceAdd,Nat.reduceSub,Nat.reduceMul,Int.reduceBEq,Int.reduceBNe,Int.reduceLT,Int.reduceLE,Int.reduceEq,reduceIte,reduceCtorEq,da,int,boolA,dr]
 refine o60 hsm ?_
 have hb0 : (hx (hx Heap.empty [.box false [.sc (.int .i64 0),.sc (.int .i64 0),.sc (.int .i64 0),.sc (.int .i64 0)]]) [curB (encB b) 0 false]).get 1 = some (curB (encB b) ((0 : Nat) : Int) false):=rfl
 have y0 : (hx (hx Heap.empty [.box false [.sc (.int .i64 0),.sc (.int .i64 0),.sc (.int .i64 0),.sc (.int .i64 0)]]) [curB (encB b) 0 false]).get 0 = some (.box false [.sc (.int .i64 0),.sc (.int .i64 0),.sc (.int .i64 0),.sc (.int .i64 0)]):=rfl
 have nx : (hx Heap.empty [.box false [.sc (.int .i64 0),.sc (.int .i64 0),.sc (.int .i64 0),.sc (.int .i64 0)]]).next = 1:=rfl
 rw [nx]
 generalize hx (hx Heap.empty [.box false [.sc (.int .i64 0),.sc (.int .i64 0),.sc (.int .i64 0),.sc (.int .i64 0)]]) [curB (encB b) 0 false] = K0 at *
 have e1 : (headAt b).gen = valM (partB b 1 1):=rfl
 have e2 : (headAt b).next = valM (partB b 4 4):=by
  unfold headAt
  rw [e1] at h1
  simp only [h1]
  rfl
 rw [e2] at v3
 have l0:=Heap.get_lt y0
 rw [← hx_nil K0]
 simp only [↓vp,vz,Nat.reduceLT,Nat.reduceEqDiff,Nat.reduceLeDiff,Nat.reduceAdd,Nat.reduceSub,Nat.reduceMul,Int.reduceBEq,Int.reduceBNe,Int.reduceLT,Int.reduceLE,Int.reduceEq,reduceIte,reduceCtorEq,da,int,boolA,dr]
 rw [hx_nil]
 refine o61 (w:=1) hb0 (by decide) (by decide) (by omega) hsm (by have:=v0.2; unfold headAt at this; simp only at this; omega) v0.1 fun K1 hb1 n1 q1 => ?_
 have y1 : K1.get 0 = _:=(q1 0 l0 (by decide)).trans y0
 rw [← hx_nil K1]
 simp only [↓vp,vz,Nat.reduceLT,Nat.reduceEqDiff,Nat.reduceLeDiff,Nat.reduceAdd,Nat.reduceSub,Nat.reduceMul,Int.reduceBEq,Int.reduceBNe,Int.reduceLT,Int.reduceLE,Int.reduceEq,reduceIte,reduceCtorEq,da,int,boolA,dr]
 rw [hx_nil]
 refine o61 (w:=1) hb1 (by decide) (by decide) (by omega) hsm (by rw [e1] at h1; show valM (partB b 1 1) ≤ _; omega) (by rw [e1] at h1; show 0 ≤ valM (partB b 1 1); omega) fun K2 hb2 n2 q2 => ?_
 have y2 : K2.get 0 = _:=(q2 0 (Heap.get_lt y1) (by decide)).trans y1
 rw [← hx_nil K2]
 simp only [↓vp,vz,Nat.reduceLT,Nat.reduceEqDiff,Nat.reduceLeDiff,Nat.reduceAdd,Nat.reduceSub,Nat.reduceMul,Int.reduceBEq,Int.reduceBNe,Int.reduceLT,Int.reduceLE,Int.reduceEq,reduceIte,reduceCtorEq,da,int,boolA,dr]
 rw [hx_nil]
 refine o61 (w:=2) hb2 (by decide) (by decide) (by omega) hsm (by have:=v2.2; unfold headAt at this; simp only at this; show valM (partB b 2 2) ≤ _; omega) v2.1 fun K3 hb3 n3 q3 => ?_
 have y3 : K3.get 0 = _:=(q3 0 (Heap.get_lt y2) (by decide)).trans y2
 have k62 : ∀ L Q,KW ftG (.fn (.func 62) [] []) [.ptr 1 0 0] (hx K3 L) Q ↔ Q (int 0) (hx K3 L):=fun L Q => o62 (get_old hb3 L)
 have k63':=fun K L Q => @k63 ⟨valM (partB b 0 1),valM (partB b 1 1),valM (partB b 2 2),0⟩ K L Q
 rw [show knownM ⟨valM (partB b 0 1),valM (partB b 1 1),valM (partB b 2 2),0⟩ = true from hk] at k63'
 rw [e1] at h1
 have k64':=fun K L Q => @k64 1 K L Q
 have k66':=fun K L Q => @k66 1 K L Q
 rw [show decide ((1 : Int) > 1) = false by decide] at k64'
 rw [show (traitM 1).2.2.1 = 4 from rfl] at k66'
 unfold headC at k63'
 simp only [h1] at k63'
 simp only [int,boolA] at k62 k63' k64' k66'
 rw [← hx_nil K3]
 simp only [↓vp,vz,Nat.reduceLT,Nat.reduceEqDiff,Nat.reduceLeDiff,Nat.reduceAdd,Nat.reduceSub,Nat.reduceMul,Int.reduceBEq,Int.reduceBNe,Int.reduceLT,Int.reduceLE,Int.reduceEq,reduceIte,reduceCtorEq,da,int,boolA,dr,h1,k62,k63',k64',k66']
 have hb4 : (hx K3 [.box false [.sc (.int .i64 (valM (partB b 0 1))),.sc (.int .i64 1),.sc (.int .i64 (valM (partB b 2 2))),.sc (.int .i64 0)]]).get 1 = some (curB (encB b) ((0 + 1 + 1 + 2 : Nat) : Int) false):=get_old hb3 _
 have y4 : (hx K3 [.box false [.sc (.int .i64 (valM (partB b 0 1))),.sc (.int .i64 1),.sc (.int .i64 (valM (partB b 2 2))),.sc (.int .i64 0)]]).get 0 = _:=get_old y3 _
 have z4 : (hx K3 [.box false [.sc (.int .i64 (valM (partB b 0 1))),.sc (.int .i64 1),.sc (.int .i64 (valM (partB b 2 2))),.sc (.int .i64 0)]]).get K3.next = some (.box false [.sc (.int .i64 (valM (partB b 0 1))),.sc (.int .i64 1),.sc (.int .i64 (valM (partB b 2 2))),.sc (.int .i64 0)]):=hx_get0 _ _
 have l3:=Heap.get_lt hb3
 generalize hx K3 [.box false [.sc (.int .i64 (valM (partB b 0 1))),.sc (.int .i64 1),.sc (.int .i64 (valM (partB b 2 2))),.sc (.int .i64 0)]] = K4 at *
 generalize K3.next = hid at *
 refine o61 (w:=4) hb4 (by decide) (by decide) (by omega) hsm v3.2 v3.1 fun K5 hb5 n5 q5 => ?_
 have y5 : K5.get 0 = _:=(q5 0 (Heap.get_lt y4) (by decide)).trans y4
 have z5 : K5.get hid = _:=(q5 hid (Heap.get_lt z4) (by omega)).trans z4
 have lh:=Heap.get_lt z5
 have g5:=fun L => get_old z5 L
 have gs : ∀ L c,(hx K5 L).set hid c = hx (K5.set hid c) L:=fun L c => hx_set_old K5 L c hid lh
 have g6 : ∀ c L,(hx (K5.set hid c) L).get hid = some c:=fun c L => get_old (Heap.get_set_self _ lh) L
 have hne : (0 : Nat) ≠ hid:=by omega
 have hne1 : (1 : Nat) ≠ hid:=by omega
 have g7 : ∀ c L,(hx (K5.set hid c) L).get 0 = _:=fun c L => get_old (by rw [Heap.get_set_ne _ hne]; exact y5) L
 have k62b : ∀ c L Q,KW ftG (.fn (.func 62) [] []) [.ptr 1 0 0] (hx (K5.set hid c) L) Q ↔ Q (int 0) (hx (K5.set hid c) L):=fun c L Q => by
  have q : (K5.set hid c).get 1 = some (curB (encB b) ((0 + 1 + 1 + 2 + 4 : Nat) : Int) false):=by rw [Heap.get_set_ne _ hne1]; exact hb5
  exact o62 (get_old q L)
 have l0':=Heap.get_lt y5
 have gs0 : ∀ L c d,(hx (K5.set hid c) L).set 0 d = hx ((K5.set hid c).set 0 d) L:=fun L c d => hx_set_old _ L d 0 (by rw [Heap.next_set]; exact l0')
 have g8 : ∀ c d L,(hx ((K5.set hid c).set 0 d) L).get 0 = some d:=fun c d L => get_old (Heap.get_set_self _ (by rw [Heap.next_set]; exact l0')) L
 simp only [int] at k62b
 rw [← hx_nil K5]
 unfold headC
 rw [show (headAt b).kind = valM (partB b 0 1) from rfl,show (headAt b).gen = 1 from h1,show (headAt b).count = valM (partB b 2 2) from rfl,e2]
 simp only [↓vp,vz,Nat.reduceLT,Nat.reduceEqDiff,Nat.reduceLeDiff,Nat.reduceAdd,Nat.reduceSub,Nat.reduceMul,Int.reduceBEq,Int.reduceBNe,Int.reduceLT,Int.reduceLE,Int.reduceEq,reduceIte,reduceCtorEq,da,int,boolA,rt,dr,g5,gs,g6,g7,k62b,gs0,g8]
end Go.VI
namespace Go.VI
attribute [local congr] AW_congr OW_congr DW_congr NW_congr VW_congr GW_congr PW_congr KW_congr ite_congr' GV_congr CV_congr KF_congr
def page1 (h : HeadM) (body : List Int) : List Int:=wrM (wrM (wrM (wrM (wrM (List.replicate 256 0) 0 (bytesN h.kind 1)) 1 (bytesN 1 1)) 2 (bytesN h.count 2)) 4 (bytesN h.next 4)) 8 body
theorem s90 {h : HeadM} {body : List Int} (hk : knownM h = true) (hg : h.gen = 1) (f1 : fitsM h.kind 1 = true) (f2 : fitsM h.count 2 = true) (f3 : fitsM h.next 4 = true) (hb : body.length = 248) (H : Heap) :
  callL ftG (.fn (.func 90) [] []) [.agg (headC h),encB body] H = some (.tup [encB (page1 h body),int 0],H):=by
 refine call_p (as':=[.agg (headC h),encB body]) rfl rfl (by simp) ?_
 unfold c90 r90
 have k63':=fun K L Q => @k63 h K L Q
 rw [hk] at k63'
 unfold headC at k63' ⊢
 rw [hg] at k63' ⊢
 simp only [int,boolA] at k63'
 simp only [↓vp,vz,Nat.reduceLT,Nat.reduceEqDiff,Nat.reduceLeDiff,Nat.reduceAdd,Nat.reduceSub,Nat.reduceMul,Int.reduceBEq,Int.reduceBNe,Int.reduceLT,Int.reduceLE,Int.reduceEq,reduceIte,reduceCtorEq,da,int,boolA,dr,k63']
 refine o87 (size:=256) (by decide) ?_
 have w0 : WrH (hx (hx Heap.empty [.box false [.sc (.int .i64 h.kind),.sc (.int .i64 1),.sc (.int .i64 h.count),.sc (.int .i64 h.next)]]) [.row false 1 ((List.replicate 256 (0 : Int)).map byteC),curB (.sl 1 0 256) 0 false]) 2 1 (List.replicate 256 0) 0 false:=⟨rfl,rfl,by simp,by simp⟩
 have y0 : (hx (hx Heap.empty [.box false [.sc (.int .i64 h.kind),.sc (.int .i64 1),.sc (.int .i64 h.count),.sc (.int .i64 h.next)]]) [.row false 1 ((List.replicate 256 (0 : Int)).map byteC),curB (.sl 1 0 256) 0 false]).get 0 = some (.box false [.sc (.int .i64 h.kind),.sc (.int .i64 1),.sc (.int .i64 h.count),.sc (.int .i64 h.next)]):=rfl
 have nx : (hx Heap.empty [.box false [.sc (.int .i64 h.kind),.sc (.int .i64 1),.sc (.int .i64 h.count),.sc (.int .i64 h.next)]]).next = 1:=rfl
 rw [nx]
 generalize hx (hx Heap.empty [.box false [.sc (.int .i64 h.kind),.sc (.int .i64 1),.sc (.int .i64 h.count),.sc (.int .i64 h.next)]]) [.row false 1 ((List.replicate 256 (0 : Int)).map byteC),curB (.sl 1 0 256) 0 false] = K0 at *
 have z0:=fun L => get_old y0 L
 have l0 : (List.replicate 256 (0 : Int)).length = 256:=by simp
 rw [← hx_nil K0]
 simp only [↓vp,vz,Nat.reduceLT,Nat.reduceEqDiff,Nat.reduceLeDiff,Nat.reduceAdd,Nat.reduceSub,Nat.reduceMul,Int.reduceBEq,Int.reduceBNe,Int.reduceLT,Int.reduceLE,Int.reduceEq,reduceIte,reduceCtorEq,da,int,boolA,dr,z0]
 rw [hx_nil]
 refine o88 w0 (n:=h.kind) (width:=1) f1 rfl (by rw [l0]; decide) fun K1 w1 r1 => ?_
 have y1 : K1.get 0 = _:=(r1.eq 0 (by decide) (by decide)).trans y0
 have z1:=fun L => get_old y1 L
 have l1 : (wrM (List.replicate 256 (0 : Int)) 0 (bytesN h.kind 1)).length = 256:=by rw [wrM_len (by rw [l0,bytesN_len]; decide),l0]
 rw [← hx_nil K1]
 simp only [↓vp,vz,Nat.reduceLT,Nat.reduceEqDiff,Nat.reduceLeDiff,Nat.reduceAdd,Nat.reduceSub,Nat.reduceMul,Int.reduceBEq,Int.reduceBNe,Int.reduceLT,Int.reduceLE,Int.reduceEq,reduceIte,reduceCtorEq,da,int,boolA,dr,z1]
 rw [hx_nil]
 refine o88 w1 (n:=1) (width:=1) (by decide) rfl (by rw [show (Int.toNat 1) = 1 from rfl,l1]; decide) fun K2 w2 r2 => ?_
 have y2 : K2.get 0 = _:=(r2.eq 0 (by decide) (by decide)).trans y1
 have z2:=fun L => get_old y2 L
 simp only [show (Int.toNat 1) = 1 from rfl] at w2
 have l2 : (wrM (wrM (List.replicate 256 (0 : Int)) 0 (bytesN h.kind 1)) 1 (bytesN 1 1)).length = 256:=by rw [wrM_len (by rw [l1,bytesN_len]; decide),l1]
 rw [← hx_nil K2]
 simp only [↓vp,vz,Nat.reduceLT,Nat.reduceEqDiff,Nat.reduceLeDiff,Nat.reduceAdd,Nat.reduceSub,Nat.reduceMul,Int.reduceBEq,Int.reduceBNe,Int.reduceLT,Int.reduceLE,Int.reduceEq,reduceIte,reduceCtorEq,da,int,boolA,dr,z2]
 rw [hx_nil]
 refine o88 w2 (n:=h.count) (width:=2) f2 rfl (by rw [l2]; decide) fun K3 w3 r3 => ?_
 have y3 : K3.get 0 = _:=(r3.eq 0 (by decide) (by decide)).trans y2
 have z3:=fun L => get_old y3 L
 simp only [show (Int.toNat 2) = 2 from rfl] at w3
 have l3 : (wrM (wrM (wrM (List.replicate 256 (0 : Int)) 0 (bytesN h.kind 1)) 1 (bytesN 1 1)) 2 (bytesN h.count 2)).length = 256:=by rw [wrM_len (by rw [l2,bytesN_len]; decide),l2]
 have k64':=fun K L Q => @k64 1 K L Q
 have k66':=fun K L Q => @k66 1 K L Q
 rw [show decide ((1 : Int) > 1) = false by decide] at k64'
 rw [show (traitM 1).2.2.1 = 4 from rfl] at k66'
 simp only [int,boolA] at k64' k66'
 have v66 : ∀ g : Int,pureV ftG (.fn (.func 66) [] []) [.sc (.int .i64 g)] = some (false,[]):=fun _ => rfl
 have v88 : ∀ args,pureV ftG (.fn (.func 88) [] []) args = none:=fun _ => rfl
 have v88t : ∀ args,pureV ftG (.tup [.fn (.func 88) [] []]) args = none:=fun _ => rfl
 have xf : ∀ q,exFQ (none : FP).isSome q = q:=fun q => by cases q <;> rfl
 rw [← hx_nil K3]
 simp only [↓vp,vz,Nat.reduceLT,Nat.reduceEqDiff,Nat.reduceLeDiff,Nat.reduceAdd,Nat.reduceSub,Nat.reduceMul,Int.reduceBEq,Int.reduceBNe,Int.reduceLT,Int.reduceLE,Int.reduceEq,reduceIte,reduceCtorEq,da,int,boolA,dr,z3,k64',k66',v66,v88,v88t,xf,mkFQ_n]
 rw [hx_nil]
 refine o88 w3 (n:=h.next) (width:=4) f3 rfl (by rw [l3]; decide) fun K4 w4 r4 => ?_
 have y4 : K4.get 0 = _:=(r4.eq 0 (by decide) (by decide)).trans y3
 have z4:=fun L => get_old y4 L
 simp only [show (Int.toNat 4) = 4 from rfl] at w4
 have l4 : (wrM (wrM (wrM (wrM (List.replicate 256 (0 : Int)) 0 (bytesN h.kind 1)) 1 (bytesN 1 1)) 2 (bytesN h.count 2)) 4 (bytesN h.next 4)).length = 256:=by rw [wrM_len (by rw [l3,bytesN_len]; decide),l3]
 rw [← hx_nil K4]
 simp only [↓vp,vz,Nat.reduceLT,Nat.reduceEqDiff,Nat.reduceLeDiff,Nat.reduceAdd,Nat.reduceSub,Nat.reduceMul,Int.reduceBEq,Int.reduceBNe,Int.reduceLT,Int.reduceLE,Int.reduceEq,reduceIte,reduceCtorEq,da,int,boolA,dr,z4]
 rw [hx_nil]
 refine o118 w4 (l:=body) rfl (by intro e; rw [e] at hb; cases hb) (by rw [l4,hb]; decide) fun K5 w5 r5 => ?_
 have y5 : K5.get 0 = _:=(r5.eq 0 (by decide) (by decide)).trans y4
 rw [← hx_nil K5]
 simp only [↓vp,vz,Nat.reduceLT,Nat.reduceEqDiff,Nat.reduceLeDiff,Nat.reduceAdd,Nat.reduceSub,Nat.reduceMul,Int.reduceBEq,Int.reduceBNe,Int.reduceLT,Int.reduceLE,Int.reduceEq,reduceIte,reduceCtorEq,da,int,boolA,dr]
 rw [hx_nil]
 refine o89 w5 rfl ?_
 have y6 : (K5.set 1 (.row true 1 ((page1 h body).map byteC))).get 0 = _:=(Heap.get_set_ne _ (by decide)).trans y5
 have z6:=fun L => get_old y6 L
 change OW _ _ _ (K5.set 1 (.row true 1 ((page1 h body).map byteC))) _
 generalize K5.set 1 (.row true 1 ((page1 h body).map byteC)) = K6 at *
 rw [← hx_nil K6]
 have eP : wrM (wrM (wrM (wrM (wrM (List.replicate 256 (0 : Int)) 0 (bytesN h.kind 1)) (0 + 1) (bytesN 1 1)) (0 + 1 + 1) (bytesN h.count 2)) (0 + 1 + 1 + 2) (bytesN h.next 4)) (0 + 1 + 1 + 2 + 4) body = page1 h body:=rfl
 rw [eP]
 have fB : ∀ n (H : Heap),frz (n + 1) H (encB (page1 h body)) = some (encB (page1 h body),H):=fun _ _ => rfl
 simp only [↓vp,vz,Nat.reduceLT,Nat.reduceEqDiff,Nat.reduceLeDiff,Nat.reduceAdd,Nat.reduceSub,Nat.reduceMul,Int.reduceBEq,Int.reduceBNe,Int.reduceLT,Int.reduceLE,Int.reduceEq,reduceIte,reduceCtorEq,da,int,boolA,rt,dr,z6,k64',fB]
theorem s108 {b : List Int} (h256 : b.length = 256) (hk : knownM (headAt b) = true)
  (v0 : 0 ≤ (headAt b).kind ∧ (headAt b).kind ≤ 255) (v2 : 0 ≤ (headAt b).count ∧ (headAt b).count ≤ 65535) (v3 : 0 ≤ (headAt b).next ∧ (headAt b).next ≤ 9223372036854775807) (h1 : (headAt b).gen = 1) (H : Heap) :
  callL ftG (.fn (.func 108) [] []) [encB b] H = some (encB (b.drop 8),H):=by
 refine call_p (as':=[encB b]) rfl rfl (by simp) ?_
 unfold c108 r108
 have k28:=fun K L Q => @KW_of ftG _ _ _ Q _ _ (s28 (b:=b) (by omega) (by omega) hk v0 v2 v3 h1 (hx K L))
 have k114':=fun K L Q => @k114 1 K L Q
 rw [show (traitM 1).2.2.2 = 8 from rfl] at k114'
 unfold headC at k28
 rw [h1] at k28
 have ln : ∀ H,lenV H 0 (encB b) = some (.sc (.int .i64 256),H):=fun H => by simp [lenV,lenOfA,encB,h256]
 have sl : ∀ H,sliceA H 1 (encB b) (some 8) none none = some (encB (b.drop 8)):=fun H => by
  unfold sliceA encB
  simp only [List.length_map,h256]
  have : boundsA 256 (some (8 : Int)) none none = some (8,256):=by decide
  rw [this,Option.bind_some]
  simp only
  rw [if_pos (.inr (bytes_sz b)),List.take_of_length_le (by simp [h256]),List.map_drop]
 have k104 : ∀ K L Q,KW ftG (.fn (.func 104) [] []) [encB (b.drop 8)] (hx K L) Q ↔ Q (encB (b.drop 8)) (hx K L):=fun K L Q => KW_of (call_pprim (as':=[encB (b.drop 8)]) (p:=cloF 1 1) rfl rfl (cloB_val _ (by simp; omega)))
 have tI : ∀ i : Int,toI (.sc (.int .i64 i)) = some i:=fun _ => rfl
 have fB : ∀ n (H : Heap),frz (n + 1) H (encB (b.drop 8)) = some (encB (b.drop 8),H):=fun _ _ => rfl
 simp only [int] at k28 k114'
 simp only [↓vp,vz,Nat.reduceLT,Nat.reduceEqDiff,Nat.reduceLeDiff,Nat.reduceAdd,Nat.reduceSub,Nat.reduceMul,Int.reduceBEq,Int.reduceBNe,Int.reduceLT,Int.reduceLE,Int.reduceEq,reduceIte,reduceCtorEq,da,int,boolA,rt,dr,k28,ln,k114',opI1,opI0,tI,sl,k104,fB]
end Go.VI
namespace Go.VI
attribute [local congr] AW_congr OW_congr DW_congr NW_congr VW_congr GW_congr PW_congr KW_congr ite_congr' GV_congr CV_congr KF_congr
section
variable {k : Nat} {args as' : List AV} {v : AV} {H H1 H2 : Heap} {Q : AV → Heap → Prop}
theorem kG_of (hk : ftG k = some (.pprim (goP ftM k))) (hz : frzCells H args = some (as',H1)) (hc : closedL as' = true) (h : callL ftM (.fn (.func k) [] []) as' Heap.empty = some (v,H2)) : KW ftG (.fn (.func k) [] []) args H Q ↔ Q v H1:=by
 refine KW_of (call_pprim (as':=as') (p:=goP ftM k) hk (by simpa using hz) ?_)
 unfold goP
 rw [if_pos hc,h]
 rfl
end
section
variable {H : Heap} {Q : AV → Heap → Prop}
theorem kG98 {l : List RunM} (h : l.length ≤ 2000000) : KW ftG (.fn (.func 98) [] []) [encR l] H Q ↔ Q (boolA (rightM l)) H:=kG_of rfl rfl rfl (callL_sub ftM_sub (s98 l h Heap.empty))
theorem kG94 {l : List RunM} (h : l.length ≤ 2000000) : KW ftG (.fn (.func 94) [] []) [encR l] H Q ↔ Q (boolA (rightM l)) H:=kG_of rfl rfl rfl (callL_sub ftM_sub (s94 l h Heap.empty))
theorem kG45 {l : List RunM} (h : l.length ≤ 2000000) : KW ftG (.fn (.func 45) [] []) [encR l] H Q ↔ Q (int (countM l)) H:=kG_of rfl rfl rfl (callL_sub ftM_sub (s45 l h Heap.empty))
theorem kG101 {l : List RunM} (h : l.length ≤ 2000000) : KW ftG (.fn (.func 101) [] []) [encR l] H Q ↔ Q (int (endsM l)) H:=kG_of rfl rfl rfl (callL_sub ftM_sub (s101 l h Heap.empty))
theorem kG44 {x : RunM} : KW ftG (.fn (.func 44) [] []) [.agg (runC x)] H Q ↔ Q (boolA (mayM x)) H:=kG_of rfl rfl rfl (callL_sub ftM_sub (s44 x Heap.empty))
theorem kG59 {a b : List RunM} (ha : a.length ≤ 2000000) (hb : b.length ≤ 2000000) : KW ftG (.fn (.func 59) [] []) [encR a,encR b] H Q ↔ Q (boolA (meetM a b)) H:=kG_of rfl rfl rfl (s59 a b ha hb Heap.empty)
theorem kG85 {l : List RunM} (h : l.length ≤ 1000) : KW ftG (.fn (.func 85) [] []) [encR l] H Q ↔ Q (encN (pagesM l)) H:=kG_of rfl rfl rfl (callL_sub ftM_sub (s85 l h Heap.empty))
end
def firstOk (l : List RunM) : Bool:=match l with
 | [] => true
 | x :: _ => decide (2 ≤ x.1)
def mayS (l : List RunM) : Bool:=rightM l && decide (endsM l ≤ 16384) && firstOk l
theorem s58 (l : List RunM) (hl : l.length ≤ 2000000) (H : Heap) : callL ftG (.fn (.func 58) [] []) [encR l] H = some (boolA (mayS l),H):=by
 refine call_p (as':=[encR l]) rfl rfl (by simp) ?_
 unfold c58 r58
 have kr:=fun H Q => @kG98 H Q l hl
 have ke:=fun H Q => @kG101 H Q l hl
 cases e1 : rightM l with
 | false =>
  have e : mayS l = false:=by unfold mayS; rw [e1]; rfl
  rw [e1] at kr
  rw [e]
  simp only [↓vp,vz,Nat.reduceLT,Nat.reduceEqDiff,Nat.reduceLeDiff,Nat.reduceAdd,Nat.reduceSub,Nat.reduceMul,Int.reduceBEq,Int.reduceBNe,Int.reduceLT,Int.reduceLE,Int.reduceEq,reduceIte,reduceCtorEq,da,int,boolA,rt,dr,kr]
 | true =>
  rw [e1] at kr
  by_cases e2 : endsM l ≤ 16384
  ·have d2 : (endsM l ≤ 16384) = True:=eq_true e2
   by_cases h0 : l = []
   ·subst h0
    have e : mayS [] = true:=by decide
    rw [e]
    have n1 : ∀ H,lenV H 0 (encR []) = some (.sc (.int .i64 0),H):=fun _ => rfl
    simp only [↓vp,vz,Nat.reduceLT,Nat.reduceEqDiff,Nat.reduceLeDiff,Nat.reduceAdd,Nat.reduceSub,Nat.reduceMul,Int.reduceBEq,Int.reduceBNe,Int.reduceLT,Int.reduceLE,Int.reduceEq,reduceIte,reduceCtorEq,da,int,boolA,rt,kr,ke,d2,n1]
   ·have gi : 0 < l.length:=List.length_pos_iff.2 h0
    have hfo : firstOk l = decide (2 ≤ l[0].1):=by
     cases l with
     | nil => exact absurd rfl h0
     | cons x l => rfl
    have hz : ((l.length : Int) == 0) = false:=by simp; omega
    have n1 : ∀ H,lenV H 0 (encR l) = some (.sc (.int .i64 (l.length : Nat)),H):=fun _ => lenR _
    have i1 : ∀ H,iaddrA H none 2 (encR l) 0 = some (.pim (l.map runC) 0 0):=fun H => atR (i:=0) gi
    have c1:=fun H off n => @cR H l 0 off n gi
    simp only [runC,int] at c1
    by_cases e3 : 2 ≤ l[0].1
    ·have d3 : (l[0].1 ≥ 2) = True:=eq_true e3
     have d4 : (2 ≤ l[0].1) = True:=eq_true e3
     have e : mayS l = true:=by unfold mayS; rw [e1,decide_eq_true e2,hfo,decide_eq_true e3]; rfl
     rw [e]
     simp only [↓vp,vz,Nat.reduceLT,Nat.reduceEqDiff,Nat.reduceLeDiff,Nat.reduceAdd,Nat.reduceSub,Nat.reduceMul,Int.reduceBEq,Int.reduceBNe,Int.reduceLT,Int.reduceLE,Int.reduceEq,reduceIte,reduceCtorEq,da,int,boolA,rt,kr,ke,d2,n1,hz,i1,c1,d3,d4]
    ·have d3 : (l[0].1 ≥ 2) = False:=eq_false e3
     have d4 : (2 ≤ l[0].1) = False:=eq_false e3
     have e : mayS l = false:=by unfold mayS; rw [e1,decide_eq_true e2,hfo,decide_eq_false e3]; rfl
     rw [e]
     simp only [↓vp,vz,Nat.reduceLT,Nat.reduceEqDiff,Nat.reduceLeDiff,Nat.reduceAdd,Nat.reduceSub,Nat.reduceMul,Int.reduceBEq,Int.reduceBNe,Int.reduceLT,Int.reduceLE,Int.reduceEq,reduceIte,reduceCtorEq,da,int,boolA,rt,kr,ke,d2,n1,hz,i1,c1,d3,d4]
  ·have d2 : (endsM l ≤ 16384) = False:=eq_false e2
   have e : mayS l = false:=by unfold mayS; rw [e1,decide_eq_false e2]; rfl
   rw [e]
   simp only [↓vp,vz,Nat.reduceLT,Nat.reduceEqDiff,Nat.reduceLeDiff,Nat.reduceAdd,Nat.reduceSub,Nat.reduceMul,Int.reduceBEq,Int.reduceBNe,Int.reduceLT,Int.reduceLE,Int.reduceEq,reduceIte,reduceCtorEq,da,int,boolA,rt,kr,ke,d2]
def rightS (f h : List RunM) : Bool:=mayS f && mayS h && !meetM f h
theorem s27 (f h : List RunM) (hf : f.length ≤ 2000000) (hh : h.length ≤ 2000000) (H : Heap) : callL ftG (.fn (.func 27) [] []) [.agg [encR f,encR h]] H = some (boolA (rightS f h),H):=by
 refine call_p (as':=[.agg [encR f,encR h]]) rfl rfl (by simp) ?_
 unfold c27 r27 rightS
 have k1:=fun K L Q => @KW_of ftG _ _ _ Q _ _ (s58 f hf (hx K L))
 have k2:=fun K L Q => @KW_of ftG _ _ _ Q _ _ (s58 h hh (hx K L))
 have k3:=fun H Q => @kG59 H Q f h hf hh
 cases e1 : mayS f with
 | false =>
  rw [e1] at k1
  simp only [↓vp,vz,Nat.reduceLT,Nat.reduceEqDiff,Nat.reduceLeDiff,Nat.reduceAdd,Nat.reduceSub,Nat.reduceMul,Int.reduceBEq,Int.reduceBNe,Int.reduceLT,Int.reduceLE,Int.reduceEq,reduceIte,reduceCtorEq,da,int,boolA,rt,dr,k1,Bool.false_and]
 | true =>
  rw [e1] at k1
  cases e2 : mayS h with
  | false =>
   rw [e2] at k2
   simp only [↓vp,vz,Nat.reduceLT,Nat.reduceEqDiff,Nat.reduceLeDiff,Nat.reduceAdd,Nat.reduceSub,Nat.reduceMul,Int.reduceBEq,Int.reduceBNe,Int.reduceLT,Int.reduceLE,Int.reduceEq,reduceIte,reduceCtorEq,da,int,boolA,rt,dr,k1,k2,Bool.false_and,Bool.and_false]
  | true =>
   rw [e2] at k2
   simp only [↓vp,vz,Nat.reduceLT,Nat.reduceEqDiff,Nat.reduceLeDiff,Nat.reduceAdd,Nat.reduceSub,Nat.reduceMul,Int.reduceBEq,Int.reduceBNe,Int.reduceLT,Int.reduceLE,Int.reduceEq,reduceIte,reduceCtorEq,da,int,boolA,rt,dr,k1,k2,k3,Bool.true_and,Bool.and_true]
theorem k27 {f h : List RunM} (hf : f.length ≤ 2000000) (hh : h.length ≤ 2000000) {K : Heap} {L : List Blk} {Q : AV → Heap → Prop} : KW ftG (.fn (.func 27) [] []) [.agg [encR f,encR h]] (hx K L) Q ↔ Q (boolA (rightS f h)) (hx K L):=KW_of (s27 f h hf hh _)
def chainB (g : Int) : Bool:=g == 1 || g == 2
theorem s29 (g : Int) (H : Heap) : callL ftG (.fn (.func 29) [] []) [int g] H = some (boolA (chainB g),H):=by
 refine call_p (as':=[int g]) rfl rfl (by simp) ?_
 unfold c29 r29 chainB
 cases e1 : (g == 1) with
 | true => simp only [↓vp,vz,Nat.reduceLT,Nat.reduceEqDiff,Nat.reduceLeDiff,Nat.reduceAdd,Nat.reduceSub,Nat.reduceMul,Int.reduceBEq,Int.reduceBNe,Int.reduceLT,Int.reduceLE,Int.reduceEq,reduceIte,reduceCtorEq,da,int,boolA,rt,dr,e1,Bool.true_or]
 | false => simp only [↓vp,vz,Nat.reduceLT,Nat.reduceEqDiff,Nat.reduceLeDiff,Nat.reduceAdd,Nat.reduceSub,Nat.reduceMul,Int.reduceBEq,Int.reduceBNe,Int.reduceLT,Int.reduceLE,Int.reduceEq,reduceIte,reduceCtorEq,da,int,boolA,rt,dr,e1,Bool.false_or]
theorem k29 {g : Int} {K : Heap} {L : List Blk} {Q : AV → Heap → Prop} : KW ftG (.fn (.func 29) [] []) [int g] (hx K L) Q ↔ Q (boolA (chainB g)) (hx K L):=KW_of (s29 g _)
theorem quo_i {t : TypeId} {x y : Int} (hy : y ≠ 0) : binA .quo t (.sc (.int .i64 x)) (.sc (.int .i64 y)) = some (.sc (.int .i64 (IntKind.i64.wrap (x.tdiv y)))):=by
 have e : binOp .quo t (.int .i64 x) (.int .i64 y) = Op.intDiv .quo .i64 x y:=rfl
 show (pureRun (binOp .quo t (.int .i64 x) (.int .i64 y))).bind ofScalar = _
 rw [e]
 unfold Op.intDiv
 rw [if_neg hy]
 rfl
def upM (n k : Int) : Int:=(n + k - 1).tdiv k
theorem s47 (n k : Int) (hn : 0 ≤ n) (hn2 : n ≤ 1000000000000) (hk : 1 ≤ k) (hk2 : k ≤ 1000) (H : Heap) : callL ftG (.fn (.func 47) [] []) [int n,int k] H = some (int (upM n k),H):=by
 refine call_p (as':=[int n,int k]) rfl rfl (by simp) ?_
 unfold c47 r47
 have w1 : IntKind.i64.wrap (n + k) = n + k:=wrap_i64 (by omega)
 have w2 : IntKind.i64.wrap (n + k - 1) = n + k - 1:=wrap_i64 (by omega)
 have q:=fun t => @quo_i t (n + k - 1) k (by omega)
 have b1 : 0 ≤ (n + k - 1).tdiv k:=Int.tdiv_nonneg (by omega) (by omega)
 have b2 : (n + k - 1).tdiv k ≤ n + k - 1:=Int.tdiv_le_self _ (by omega)
 have w3 : IntKind.i64.wrap ((n + k - 1).tdiv k) = upM n k:=wrap_i64 (by omega)
 simp only [↓vp,vz,Nat.reduceLT,Nat.reduceEqDiff,Nat.reduceLeDiff,Nat.reduceAdd,Nat.reduceSub,Nat.reduceMul,Int.reduceBEq,Int.reduceBNe,Int.reduceLT,Int.reduceLE,Int.reduceEq,reduceIte,reduceCtorEq,da,int,boolA,rt,dr,w1,w2,q,w3]
def roomM (g : Int) : Int:=if g = 1 then 61 else 29
theorem s48 {g : Int} (h : g = 1 ∨ g = 2) (H : Heap) : callL ftG (.fn (.func 48) [] []) [int g] H = some (int (roomM g),H):=by
 refine call_p (as':=[int g]) rfl rfl (by simp) ?_
 unfold c48 r48
 have kc:=fun K L Q => @k83 g K L Q
 have kw:=fun K L Q => @k66 g K L Q
 rcases h with rfl | rfl
 ·rw [show capM 1 = 248 by decide] at kc
  rw [show (traitM 1).2.2.1 = 4 by decide] at kw
  have w1 : IntKind.i64.wrap (248 - 4) = 244:=by decide
  have q:=fun t => @quo_i t 244 4 (by decide)
  rw [show IntKind.i64.wrap (Int.tdiv 244 4) = 61 by decide] at q
  simp only [int] at kc kw
  simp only [↓vp,vz,Nat.reduceLT,Nat.reduceEqDiff,Nat.reduceLeDiff,Nat.reduceAdd,Nat.reduceSub,Nat.reduceMul,Int.reduceBEq,Int.reduceBNe,Int.reduceLT,Int.reduceLE,Int.reduceEq,reduceIte,reduceCtorEq,da,int,boolA,rt,dr,kc,kw,w1,q]
  rfl
 ·rw [show capM 2 = 240 by decide] at kc
  rw [show (traitM 2).2.2.1 = 8 by decide] at kw
  have w1 : IntKind.i64.wrap (240 - 4) = 236:=by decide
  have q:=fun t => @quo_i t 236 8 (by decide)
  rw [show IntKind.i64.wrap (Int.tdiv 236 8) = 29 by decide] at q
  simp only [int] at kc kw
  simp only [↓vp,vz,Nat.reduceLT,Nat.reduceEqDiff,Nat.reduceLeDiff,Nat.reduceAdd,Nat.reduceSub,Nat.reduceMul,Int.reduceBEq,Int.reduceBNe,Int.reduceLT,Int.reduceLE,Int.reduceEq,reduceIte,reduceCtorEq,da,int,boolA,rt,dr,kc,kw,w1,q]
  rfl
def firstM (g : Int) (ids : List Int) : Int:=if chainB g then ids.head?.getD 0 else ids.getLast?.getD 0
theorem p20 (g : Int) (ids : List Int) (hl : ids.length ≤ 1000000) {args : List AV} {H H1 : Heap} (hz : frzCells H args = some ([int g,encN ids],H1)) : callL ftG (.fn (.func 20) [] []) args H = some (int (firstM g ids),H1):=by
 refine call_p (as':=[int g,encN ids]) rfl (by simpa using hz) (by simp) ?_
 unfold c20 r20 firstM
 have kc:=fun K L Q => @k29 g K L Q
 have ln : ∀ H,lenV H 0 (encN ids) = some (.sc (.int .i64 (ids.length : Nat)),H):=fun H => lenN _
 cases hn : ids with
 | nil =>
  have l0 : ∀ H,lenV H 0 (encN []) = some (.sc (.int .i64 0),H):=fun _ => rfl
  simp only [↓vp,vz,Nat.reduceLT,Nat.reduceEqDiff,Nat.reduceLeDiff,Nat.reduceAdd,Nat.reduceSub,Nat.reduceMul,Int.reduceBEq,Int.reduceBNe,Int.reduceLT,Int.reduceLE,Int.reduceEq,reduceIte,reduceCtorEq,da,int,boolA,rt,l0]
  cases chainB g <;> rfl
 | cons x r =>
  rw [← hn]
  have hp : 0 < ids.length:=by rw [hn]; simp
  have z : ((ids.length : Int) == 0) = false:=beq_eq_false_iff_ne.2 (by omega)
  have a0 : ∀ H,iaddrA H none 1 (encN ids) 0 = some (.pim (ids.map numC) 0 0):=fun H => atN (i:=0) hp
  have b0:=fun H off n => @cN H ids 0 off n hp
  have w1 : IntKind.i64.wrap ((ids.length : Int) - 1) = ((ids.length - 1 : Nat) : Int):=by rw [wrap_i64 (by omega)]; omega
  have gl : ids.length - 1 < ids.length:=by omega
  have a1:=fun H => @atN H ids (ids.length - 1) gl
  have b1:=fun H off n => @cN H ids (ids.length - 1) off n gl
  have e1 : ids.head?.getD 0 = ids[0]:=by simp [hn]
  have e2 : ids.getLast?.getD 0 = ids[ids.length - 1]'gl:=by rw [List.getLast?_eq_getElem?,List.getElem?_eq_getElem gl]; rfl
  simp only [numC,int] at b0 b1
  cases c : chainB g with
  | true =>
   rw [c] at kc
   simp only [int,boolA] at kc
   simp only [↓vp,vz,Nat.reduceLT,Nat.reduceEqDiff,Nat.reduceLeDiff,Nat.reduceAdd,Nat.reduceSub,Nat.reduceMul,Int.reduceBEq,Int.reduceBNe,Int.reduceLT,Int.reduceLE,Int.reduceEq,reduceIte,reduceCtorEq,da,int,boolA,rt,ln,z,kc,a0,b0,e1]
  | false =>
   rw [c] at kc
   simp only [int,boolA] at kc
   simp only [↓vp,vz,Nat.reduceLT,Nat.reduceEqDiff,Nat.reduceLeDiff,Nat.reduceAdd,Nat.reduceSub,Nat.reduceMul,Int.reduceBEq,Int.reduceBNe,Int.reduceLT,Int.reduceLE,Int.reduceEq,reduceIte,reduceCtorEq,da,int,boolA,rt,ln,z,kc,w1,a1,b1,e2,Bool.false_eq_true]
def okAt (ids : List Int) (k : Nat) : Bool:=!decide (ids.getD k 0 < 2) && !decide (ids.getD k 0 ≥ 16384) && !decide (ids.getD k 0 ∈ ids.take k)
def placesM (ids : List Int) (many : Int) : Bool:=(List.range ids.length).all (okAt ids) && ((ids.length : Int) == many)
theorem takeN {H : Heap} {l : List Int} {i : Nat} (h : i ≤ l.length) : sliceA H 1 (encN l) none (some (i : Int)) none = some (encN (l.take i)):=by
 unfold sliceA encN
 simp only [List.length_map]
 have : boundsA l.length none (some (i : Int)) none = some (0,i):=by
  unfold boundsA
  simp
  omega
 rw [this,Option.bind_some]
 simp only
 rw [if_pos (.inl trivial),List.drop_zero,Nat.sub_zero,List.map_take]
theorem l49 (ids : List Int) (hl : ids.length ≤ 1000000) (many : Int) {Q : AExit → Env → Heap → Prop}
   (hex : ∀ f' K, (∀ k, k < ids.length → okAt ids k = true) → f' 0 = encN ids → f' 1 = int many → Q (.exit 0) (mkE 32 f') (hx K []))
   (hret : ∀ f' K k, k < ids.length → okAt ids k = false → f' 4 = boolA false → Q .ret (mkE 32 f') (hx K [])) :
   ∀ (d i : Nat) (K : Heap) (f : Nat → AV), i + d = ids.length → (∀ k, k < i → okAt ids k = true) → f 0 = encN ids → f 1 = int many → f 7 = encN ids → f 8 = int ids.length → f 9 = int i →
    AW ftG (.loop c49L0) (mkE 32 f) (hx K []) Q := by
  intro d
  induction d with
  | zero =>
    intro i K f hd hok f0 f1 f7 f8 f9
    have g : ((i : Int) < ids.length) = False := by simp; omega
    rw [AW_loop]
    unfold c49L0
    simp only [↓vp, vz, Nat.reduceLT, Nat.reduceEqDiff, Nat.reduceLeDiff, Nat.reduceAdd, Nat.reduceSub, Nat.reduceMul, Int.reduceBEq, Int.reduceBNe, Int.reduceLT, Int.reduceLE, Int.reduceEq, reduceIte, reduceCtorEq, da, int, boolA, dr, f8, f9, g]
    refine hex _ K (fun k hk => hok k (by omega)) ?_ ?_ <;> simp only [↓vp, vz, Nat.reduceLT, Nat.reduceEqDiff, Nat.reduceLeDiff, Nat.reduceAdd, Nat.reduceSub, Nat.reduceMul, Int.reduceBEq, Int.reduceBNe, Int.reduceLT, Int.reduceLE, Int.reduceEq, reduceIte, reduceCtorEq, da, int, boolA, f0, f1]
  | succ d ih =>
    intro i K f hd hok f0 f1 f7 f8 f9
    have g1 : ((i : Int) < ids.length) = True := by simp; omega
    have gi : i < ids.length := by omega
    have w1 := wrap_succ (show i < 9223372036854775807 by omega)
    have a0 := fun H => @atN H ids i gi
    have b0 := fun H off n => @cN H ids i off n gi
    have eg : ids.getD i 0 = ids[i] := by rw [List.getD_eq_getElem?_getD, List.getElem?_eq_getElem gi]; rfl
    have sl := fun H => @takeN H ids i (by omega)
    have k84 := fun K L Q => @KW_of ftG _ _ _ Q _ _ (s84 ids[i] (ids.take i) (by rw [List.length_take]; omega) (hx K L))
    have eo : okAt ids i = (!decide (ids[i] < 2) && !decide (ids[i] ≥ 16384) && !decide (ids[i] ∈ ids.take i)) := by unfold okAt; rw [eg]
    have tI : ∀ i : Int, toI (.sc (.int .i64 i)) = some i := fun _ => rfl
    generalize ids[i] = x at *
    simp only [numC, int] at b0
    rw [AW_loop]
    unfold c49L0
    by_cases q1 : x < 2
    · simp only [↓vp, vz, Nat.reduceLT, Nat.reduceEqDiff, Nat.reduceLeDiff, Nat.reduceAdd, Nat.reduceSub, Nat.reduceMul, Int.reduceBEq, Int.reduceBNe, Int.reduceLT, Int.reduceLE, Int.reduceEq, reduceIte, reduceCtorEq, da, int, boolA, dr, f0, f1, f7, f8, f9, g1, a0, b0, eq_true q1]
      refine hret _ K i gi (by rw [eo, decide_eq_true q1]; rfl) ?_
      simp only [↓vp, vz, Nat.reduceLT, Nat.reduceEqDiff, Nat.reduceLeDiff, Nat.reduceAdd, Nat.reduceSub, Nat.reduceMul, Int.reduceBEq, Int.reduceBNe, Int.reduceLT, Int.reduceLE, Int.reduceEq, reduceIte, reduceCtorEq, da, int, boolA]
    by_cases q2 : x ≥ 16384
    · have d2 : (16384 ≤ x) = True := eq_true q2
      simp only [↓vp, vz, Nat.reduceLT, Nat.reduceEqDiff, Nat.reduceLeDiff, Nat.reduceAdd, Nat.reduceSub, Nat.reduceMul, Int.reduceBEq, Int.reduceBNe, Int.reduceLT, Int.reduceLE, Int.reduceEq, reduceIte, reduceCtorEq, da, int, boolA, dr, f0, f1, f7, f8, f9, g1, a0, b0, eq_false q1, eq_true q2, d2]
      refine hret _ K i gi (by rw [eo, decide_eq_true q2]; simp) ?_
      simp only [↓vp, vz, Nat.reduceLT, Nat.reduceEqDiff, Nat.reduceLeDiff, Nat.reduceAdd, Nat.reduceSub, Nat.reduceMul, Int.reduceBEq, Int.reduceBNe, Int.reduceLT, Int.reduceLE, Int.reduceEq, reduceIte, reduceCtorEq, da, int, boolA]
    have d2 : (16384 ≤ x) = False := eq_false q2
    by_cases q3 : x ∈ ids.take i
    · rw [decide_eq_true q3] at k84
      simp only [int, boolA] at k84
      simp only [↓vp, vz, Nat.reduceLT, Nat.reduceEqDiff, Nat.reduceLeDiff, Nat.reduceAdd, Nat.reduceSub, Nat.reduceMul, Int.reduceBEq, Int.reduceBNe, Int.reduceLT, Int.reduceLE, Int.reduceEq, reduceIte, reduceCtorEq, da, int, boolA, dr, f0, f1, f7, f8, f9, g1, a0, b0, eq_false q1, eq_false q2, d2, opI1, opI0, tI, sl, k84]
      refine hret _ K i gi (by rw [eo, decide_eq_true q3]; simp) ?_
      simp only [↓vp, vz, Nat.reduceLT, Nat.reduceEqDiff, Nat.reduceLeDiff, Nat.reduceAdd, Nat.reduceSub, Nat.reduceMul, Int.reduceBEq, Int.reduceBNe, Int.reduceLT, Int.reduceLE, Int.reduceEq, reduceIte, reduceCtorEq, da, int, boolA]
    · rw [decide_eq_false q3] at k84
      simp only [int, boolA] at k84
      simp only [↓vp, vz, Nat.reduceLT, Nat.reduceEqDiff, Nat.reduceLeDiff, Nat.reduceAdd, Nat.reduceSub, Nat.reduceMul, Int.reduceBEq, Int.reduceBNe, Int.reduceLT, Int.reduceLE, Int.reduceEq, reduceIte, reduceCtorEq, da, int, boolA, dr, f0, f1, f7, f8, f9, g1, a0, b0, eq_false q1, eq_false q2, d2, opI1, opI0, tI, sl, k84, w1]
      refine ih (i + 1) K _ (by omega) (fun k hk => ?_) ?_ ?_ ?_ ?_ ?_
      · rcases Nat.lt_or_ge k i with e | e
        · exact hok k e
        · obtain rfl : k = i := by omega
          rw [eo, decide_eq_false q1, decide_eq_false q2, decide_eq_false q3]
          rfl
      all_goals simp only [↓vp, vz, Nat.reduceLT, Nat.reduceEqDiff, Nat.reduceLeDiff, Nat.reduceAdd, Nat.reduceSub, Nat.reduceMul, Int.reduceBEq, Int.reduceBNe, Int.reduceLT, Int.reduceLE, Int.reduceEq, reduceIte, reduceCtorEq, da, int, boolA, f0, f1, f7, f8]
theorem p49 (ids : List Int) (hl : ids.length ≤ 1000000) (many : Int) {args : List AV} {H H1 : Heap} (hz : frzCells H args = some ([encN ids,int many],H1)) : callL ftG (.fn (.func 49) [] []) args H = some (boolA (placesM ids many),H1):=by
 refine call_p (as':=[encN ids,int many]) rfl (by simpa using hz) (by simp) ?_
 unfold c49 r49 placesM
 have ln : ∀ H,lenV H 0 (encN ids) = some (.sc (.int .i64 (ids.length : Nat)),H):=fun H => lenN _
 simp only [↓vp,vz,Nat.reduceLT,Nat.reduceEqDiff,Nat.reduceLeDiff,Nat.reduceAdd,Nat.reduceSub,Nat.reduceMul,Int.reduceBEq,Int.reduceBNe,Int.reduceLT,Int.reduceLE,Int.reduceEq,reduceIte,reduceCtorEq,da,int,boolA,dr,ln]
 rw [← hx_nil Heap.empty]
 refine l49 ids hl many (fun f' K hok f0 f1 => ?_) (fun f' K k hk hb f4 => ?_) ids.length 0 _ _ (by simp) (fun k h => by omega) ?_ ?_ ?_ ?_ ?_
 ·have e : (List.range ids.length).all (okAt ids) = true:=List.all_eq_true.2 fun k hk => hok k (List.mem_range.1 hk)
  rw [e]
  unfold c49R1
  simp only [↓vp,vz,Nat.reduceLT,Nat.reduceEqDiff,Nat.reduceLeDiff,Nat.reduceAdd,Nat.reduceSub,Nat.reduceMul,Int.reduceBEq,Int.reduceBNe,Int.reduceLT,Int.reduceLE,Int.reduceEq,reduceIte,reduceCtorEq,da,int,boolA,rt,dr,f0,f1,ln,Bool.true_and]
 ·have e : (List.range ids.length).all (okAt ids) = false:=by
   cases q : (List.range ids.length).all (okAt ids) with
   | false => rfl
   | true => rw [List.all_eq_true.1 q k (List.mem_range.2 hk)] at hb; cases hb
  rw [e]
  simp only [↓vp,vz,Nat.reduceLT,Nat.reduceEqDiff,Nat.reduceLeDiff,Nat.reduceAdd,Nat.reduceSub,Nat.reduceMul,Int.reduceBEq,Int.reduceBNe,Int.reduceLT,Int.reduceLE,Int.reduceEq,reduceIte,reduceCtorEq,da,int,boolA,rt,dr,f4,Bool.false_and]
 all_goals first | (simp only [↓vp,vz,Nat.reduceLT,Nat.reduceEqDiff,Nat.reduceLeDiff,Nat.reduceAdd,Nat.reduceSub,Nat.reduceMul,Int.reduceBEq,Int.reduceBNe,Int.reduceLT,Int.reduceLE,Int.reduceEq,reduceIte,reduceCtorEq,da,int,boolA]; done) | (simp only [↓vp,vz,Nat.reduceLT,Nat.reduceEqDiff,Nat.reduceLeDiff,Nat.reduceAdd,Nat.reduceSub,Nat.reduceMul,Int.reduceBEq,Int.reduceBNe,Int.reduceLT,Int.reduceLE,Int.reduceEq,reduceIte,reduceCtorEq,da,int,boolA]; rfl)
end Go.VI
namespace Go.VI
attribute [local congr] AW_congr OW_congr DW_congr NW_congr VW_congr GW_congr PW_congr KW_congr ite_congr' GV_congr CV_congr KF_congr
theorem countM_16 {l : List RunM} : 0 ≤ countM l ∧ countM l ≤ 32768:=by
 rw [countM_eq,pages_upto (clean_lt l)]
 have:=upto_len_le (fun k => inR (cleanM l) (k : Int)) 32768
 omega
def needM (g : Int) (f h : List RunM) : Int:=if genB g && rightS f h && !(countM f + countM h == 0) then (if chainB g then upM (countM f + countM h) (roomM g) else 1) else 0
theorem s16 (g : Int) (f h : List RunM) (hf : f.length ≤ 1000000) (hh : h.length ≤ 1000000) (hg : g = 3 → 1 ≤ f.length + h.length ∧ f.length + h.length ≤ 18) (H : Heap) :
  callL ftG (.fn (.func 16) [] []) [int g,.agg [encR f,encR h]] H = some (int (needM g f h),H):=by
 refine call_p (as':=[int g,.agg [encR f,encR h]]) rfl rfl (by simp) ?_
 unfold c16 r16
 have kf:=fun H Q => @kG45 H Q f (by omega)
 have kh:=fun H Q => @kG45 H Q h (by omega)
 have vf : ∀ l : List RunM,pureV ftG (.fn (.func 45) [] []) [encR l] = some (false,[]):=fun _ => rfl
 have kg:=fun K L Q => @k46 g K L Q
 have k27':=fun K L Q => @k27 f h (by omega) (by omega) K L Q
 have kc:=fun K L Q => @k29 g K L Q
 have bf:=@countM_16 f
 have bh:=@countM_16 h
 have w1 : IntKind.i64.wrap (countM f + countM h) = countM f + countM h:=wrap_i64 (by omega)
 simp only [int] at kf kh
 cases e1 : genB g with
 | false =>
  rw [e1] at kg
  simp only [int,boolA] at kg
  rw [show needM g f h = 0 by unfold needM; rw [e1]; rfl]
  simp only [↓vp,vz,Nat.reduceLT,Nat.reduceEqDiff,Nat.reduceLeDiff,Nat.reduceAdd,Nat.reduceSub,Nat.reduceMul,Int.reduceBEq,Int.reduceBNe,Int.reduceLT,Int.reduceLE,Int.reduceEq,reduceIte,reduceCtorEq,da,int,boolA,rt,dr,kf,kh,vf,w1,kg]
 | true =>
 rw [e1] at kg
 simp only [int,boolA] at kg
 cases e2 : rightS f h with
 | false =>
  rw [e2] at k27'
  simp only [boolA] at k27'
  rw [show needM g f h = 0 by unfold needM; rw [e2]; simp]
  simp only [↓vp,vz,Nat.reduceLT,Nat.reduceEqDiff,Nat.reduceLeDiff,Nat.reduceAdd,Nat.reduceSub,Nat.reduceMul,Int.reduceBEq,Int.reduceBNe,Int.reduceLT,Int.reduceLE,Int.reduceEq,reduceIte,reduceCtorEq,da,int,boolA,rt,dr,kf,kh,vf,w1,kg,k27']
 | true =>
 rw [e2] at k27'
 simp only [boolA] at k27'
 cases e3 : (countM f + countM h == 0) with
 | true =>
  rw [show needM g f h = 0 by unfold needM; rw [e3]; simp]
  simp only [↓vp,vz,Nat.reduceLT,Nat.reduceEqDiff,Nat.reduceLeDiff,Nat.reduceAdd,Nat.reduceSub,Nat.reduceMul,Int.reduceBEq,Int.reduceBNe,Int.reduceLT,Int.reduceLE,Int.reduceEq,reduceIte,reduceCtorEq,da,int,boolA,rt,dr,kf,kh,vf,w1,kg,k27',e3]
 | false =>
 cases e4 : chainB g with
 | true =>
  have hg12 : g = 1 ∨ g = 2:=by unfold chainB at e4; simpa using e4
  have k48:=fun K L Q => @KW_of ftG _ _ _ Q _ _ (s48 hg12 (hx K L))
  have k47:=fun K L Q => @KW_of ftG _ _ _ Q _ _ (s47 (countM f + countM h) (roomM g) (by omega) (by omega) (by unfold roomM; split <;> omega) (by unfold roomM; split <;> omega) (hx K L))
  rw [e4] at kc
  simp only [int,boolA] at kc k48 k47
  rw [show needM g f h = upM (countM f + countM h) (roomM g) by unfold needM; rw [e1,e2,e3,e4]; rfl]
  simp only [↓vp,vz,Nat.reduceLT,Nat.reduceEqDiff,Nat.reduceLeDiff,Nat.reduceAdd,Nat.reduceSub,Nat.reduceMul,Int.reduceBEq,Int.reduceBNe,Int.reduceLT,Int.reduceLE,Int.reduceEq,reduceIte,reduceCtorEq,da,int,boolA,rt,dr,kf,kh,vf,w1,kg,k27',e3,kc,k48,k47]
 | false =>
  have g3 : g = 3:=by
   rcases gen_cases e1 with q | q | q
   ·rw [q] at e4; cases e4
   ·rw [q] at e4; cases e4
   ·exact q
  obtain ⟨n1,n2⟩:=hg g3
  rw [e4] at kc
  have lf : ∀ H,lenV H 0 (encR f) = some (.sc (.int .i64 (f.length : Nat)),H):=fun _ => lenR _
  have lh : ∀ H,lenV H 0 (encR h) = some (.sc (.int .i64 (h.length : Nat)),H):=fun _ => lenR _
  have w2 : IntKind.i64.wrap ((f.length : Int) + h.length) = f.length + h.length:=wrap_i64 (by omega)
  have k47:=fun K L Q => @KW_of ftG _ _ _ Q _ _ (s47 ((f.length : Int) + h.length) 18 (by omega) (by omega) (by decide) (by decide) (hx K L))
  have u1 : upM ((f.length : Int) + h.length) 18 = 1:=by
   unfold upM
   obtain ⟨m,hm⟩ : ∃ m : Nat,f.length + h.length = m:=⟨_,rfl⟩
   have : ((f.length : Int) + h.length) = m:=by omega
   rw [this]
   have hm1 : 1 ≤ m:=by omega
   have hm2 : m ≤ 18:=by omega
   rw [Int.tdiv_eq_ediv_of_nonneg (by omega)]
   omega
  rw [u1] at k47
  have w3 : IntKind.i64.wrap (0 + 1) = 1:=by decide
  simp only [int,boolA] at kc k47
  rw [show needM g f h = 1 by unfold needM; rw [e1,e2,e3,e4]; rfl]
  simp only [↓vp,vz,Nat.reduceLT,Nat.reduceEqDiff,Nat.reduceLeDiff,Nat.reduceAdd,Nat.reduceSub,Nat.reduceMul,Int.reduceBEq,Int.reduceBNe,Int.reduceLT,Int.reduceLE,Int.reduceEq,reduceIte,reduceCtorEq,da,int,boolA,rt,dr,kf,kh,vf,w1,kg,k27',e3,kc,lf,lh,w2,k47]
  rw [AW_loop]
  unfold c16L0
  simp only [↓vp,vz,Nat.reduceLT,Nat.reduceEqDiff,Nat.reduceLeDiff,Nat.reduceAdd,Nat.reduceSub,Nat.reduceMul,Int.reduceBEq,Int.reduceBNe,Int.reduceLT,Int.reduceLE,Int.reduceEq,reduceIte,reduceCtorEq,da,int,boolA,rt,dr,w3]
end Go.VI
namespace Go.VI
attribute [local congr] AW_congr OW_congr DW_congr NW_congr VW_congr GW_congr PW_congr KW_congr ite_congr' GV_congr CV_congr KF_congr
theorem allN (l : List Int) : allSz 1 (l.map numC) = true:=by
 unfold allSz
 rw [List.all_eq_true]
 intro x hx
 obtain ⟨y,-,rfl⟩:=List.mem_map.1 hx
 rfl
def gzN : List AV:=[.sc (.int .i64 0)]
theorem s1090 (H : Heap) : callL ftG (.fn (.func 109) [] []) [.sc (.slice none 0 0),.sc (.int .i64 0)] H = some (.sc (.slice none 0 0),H):=by
 refine call_o (H1:=H) rfl (by simp) ?_
 unfold c109 r109 RetO
 have w0 : IntKind.i64.wrap (0 - 0) = 0:=rfl
 simp only [↓vp,vz,Nat.reduceLT,Nat.reduceEqDiff,Nat.reduceLeDiff,Nat.reduceAdd,Nat.reduceSub,Nat.reduceMul,Int.reduceBEq,Int.reduceBNe,Int.reduceLT,Int.reduceLE,Int.reduceEq,reduceIte,reduceCtorEq,da,int,boolA,dr,VW_appz,VW_cap,opI0,opI1,w0]
 exact ⟨rfl,hx_nil _⟩
theorem s1091 {m : Nat} (h0 : 0 < m) (hm : m ≤ 4000000) (H : Heap) : callL ftG (.fn (.func 109) [] []) [.sc (.slice none 0 0),int m] H = some (.sl H.next 0 0,hx H [.row false 1 (List.replicate m gzN)]):=by
 refine call_o rfl (by simp) ?_
 unfold c109 r109 RetO
 have w0 : IntKind.i64.wrap (0 - 0) = 0:=rfl
 have w1 : IntKind.i64.wrap ((m : Int) - 0) = (m : Int):=by rw [wrap_i64 (by omega)]; omega
 have g0 : ((m : Int) < 0) = False:=eq_false (by omega)
 have g1 : ((0 : Int) < m) = True:=eq_true (by omega)
 have g2 : (m = 0) = False:=eq_false (by omega)
 have d2 : (m * 8 ≤ 140737488355328) = True:=eq_true (by omega)
 have d3 : ((0 : Int) ≤ m) = True:=eq_true (by omega)
 have ha : allSz 1 (List.replicate m gzN) = true:=allSz_rep rfl
 have hs : sliceA (hx H [.row false 1 (List.replicate m gzN)]) 1 (.sl H.next 0 m) none (some 0) none = some (.sl H.next 0 0):=slice_sl0 (by rw [hx_get0]; rfl) (by simp)
 unfold gzN at *
 simp only [↓vp,vz,Nat.reduceLT,Nat.reduceEqDiff,Nat.reduceLeDiff,Nat.reduceAdd,Nat.reduceSub,Nat.reduceMul,Int.reduceBEq,Int.reduceBNe,Int.reduceLT,Int.reduceLE,Int.reduceEq,reduceIte,reduceCtorEq,da,int,boolA,dr,VW_appz,VW_cap,opI0,opI1,w0,w1,g0,g1,g2,slice_nil0,Int.toNat_natCast,List.length_replicate,ha,d2,d3,hs]
 try rfl
theorem concN {A B : List Int} {args : List AV} {H H1 : Heap} (hz : frzCells H args = some ([.lst [[encN A],[encN B]]],H1)) (ha : A.length ≤ 1000000) (hb : B.length ≤ 1000000) : callL ftG (.fn (.func 69) [] []) args H = some (encN (A ++ B),H1):=by
 refine call_p rfl (by simpa using hz) (by simp) ?_
 unfold c69 r69
 have i0 : ∀ H,iaddrA H none 1 (.lst [[encN A],[encN B]]) 0 = some (.pim [[encN A],[encN B]] 0 0):=fun _ => rfl
 have i1 : ∀ H,iaddrA H none 1 (.lst [[encN A],[encN B]]) 1 = some (.pim [[encN A],[encN B]] 1 0):=fun _ => rfl
 have c0 : ∀ H,cellsAt H (.pim [[encN A],[encN B]] 0 0) 1 = some [encN A]:=fun _ => rfl
 have c1 : ∀ H,cellsAt H (.pim [[encN A],[encN B]] 1 0) 1 = some [encN B]:=fun _ => rfl
 have hl : ∀ H,lenV H 0 (.lst [[encN A],[encN B]]) = some (.sc (.int .i64 2),H):=fun _ => rfl
 have w0 : IntKind.i64.wrap (0 + 1) = 1:=rfl
 have w1 : IntKind.i64.wrap (1 + 1) = 2:=rfl
 have w2 : IntKind.i64.wrap (0 + (A.length : Int)) = A.length:=by rw [wrap_i64 (by omega)]; omega
 have w3 : IntKind.i64.wrap ((A.length : Int) + B.length) = ((A.length + B.length : Nat) : Int):=by rw [wrap_i64 (by omega)]; omega
 have g0 : ((A.length : Int) < 0) = False:=eq_false (by omega)
 have g1 : (((A.length + B.length : Nat) : Int) < 0) = False:=eq_false (by omega)
 simp only [↓vp,vz,Nat.reduceLT,Nat.reduceEqDiff,Nat.reduceLeDiff,Nat.reduceAdd,Nat.reduceSub,Nat.reduceMul,Int.reduceBEq,Int.reduceBNe,Int.reduceLT,Int.reduceLE,Int.reduceEq,reduceIte,reduceCtorEq,da,int,boolA,dr,hl]
 rw [AW_loop]
 unfold c69L0
 simp only [↓vp,vz,Nat.reduceLT,Nat.reduceEqDiff,Nat.reduceLeDiff,Nat.reduceAdd,Nat.reduceSub,Nat.reduceMul,Int.reduceBEq,Int.reduceBNe,Int.reduceLT,Int.reduceLE,Int.reduceEq,reduceIte,reduceCtorEq,da,int,boolA,dr,hl,i0,c0,w0,w2,g0]
 rw [AW_loop]
 simp only [↓vp,vz,Nat.reduceLT,Nat.reduceEqDiff,Nat.reduceLeDiff,Nat.reduceAdd,Nat.reduceSub,Nat.reduceMul,Int.reduceBEq,Int.reduceBNe,Int.reduceLT,Int.reduceLE,Int.reduceEq,reduceIte,reduceCtorEq,da,int,boolA,dr,hl,i1,c1,w1,w3,g1]
 rw [AW_loop]
 simp only [↓vp,vz,Nat.reduceLT,Nat.reduceEqDiff,Nat.reduceLeDiff,Nat.reduceAdd,Nat.reduceSub,Nat.reduceMul,Int.reduceBEq,Int.reduceBNe,Int.reduceLT,Int.reduceLE,Int.reduceEq,reduceIte,reduceCtorEq,da,int,boolA,dr]
 unfold c69R3
 by_cases hm : A.length + B.length = 0
 ·obtain rfl : A = []:=List.eq_nil_of_length_eq_zero (by omega)
  obtain rfl : B = []:=List.eq_nil_of_length_eq_zero (by omega)
  have kg:=fun K L Q => @KW_of ftG _ _ _ Q _ _ (s1090 (hx K L))
  have r0 : ∀ H,rowsOf H (encN []) = some []:=fun _ => rfl
  simp only [↓vp,vz,Nat.reduceLT,Nat.reduceEqDiff,Nat.reduceLeDiff,Nat.reduceAdd,Nat.reduceSub,Nat.reduceMul,Int.reduceBEq,Int.reduceBNe,Int.reduceLT,Int.reduceLE,Int.reduceEq,reduceIte,reduceCtorEq,da,int,boolA,dr,List.length_nil,Nat.add_zero,Int.natCast_zero,kg,hl,r0]
  rw [AW_loop]
  unfold c69L1
  simp only [↓vp,vz,Nat.reduceLT,Nat.reduceEqDiff,Nat.reduceLeDiff,Nat.reduceAdd,Nat.reduceSub,Nat.reduceMul,Int.reduceBEq,Int.reduceBNe,Int.reduceLT,Int.reduceLE,Int.reduceEq,reduceIte,reduceCtorEq,da,int,boolA,dr,List.length_nil,Nat.add_zero,Int.natCast_zero,kg,hl,i0,c0,w0,r0]
  rw [AW_loop]
  simp only [↓vp,vz,Nat.reduceLT,Nat.reduceEqDiff,Nat.reduceLeDiff,Nat.reduceAdd,Nat.reduceSub,Nat.reduceMul,Int.reduceBEq,Int.reduceBNe,Int.reduceLT,Int.reduceLE,Int.reduceEq,reduceIte,reduceCtorEq,da,int,boolA,dr,List.length_nil,Nat.add_zero,Int.natCast_zero,kg,hl,i1,c1,w1,r0]
  rw [AW_loop]
  simp only [↓vp,vz,Nat.reduceLT,Nat.reduceEqDiff,Nat.reduceLeDiff,Nat.reduceAdd,Nat.reduceSub,Nat.reduceMul,Int.reduceBEq,Int.reduceBNe,Int.reduceLT,Int.reduceLE,Int.reduceEq,reduceIte,reduceCtorEq,da,int,boolA,dr,rt,c69R2]
  rfl
 ·have kg:=fun K L Q => @KW_of ftG _ _ _ Q _ _ (s1091 (m:=A.length + B.length) (by omega) (by omega) (hx K L))
  have rI : ∀ H l,rowsOf H (encN l) = some (l.map numC):=fun _ _ => rfl
  have e0 : (List.replicate (A.length + B.length) gzN).length = A.length + B.length:=by simp
  have e1 : List.drop A.length (List.replicate (A.length + B.length) gzN) = List.replicate B.length gzN:=by simp
  have e2 : (A.map numC ++ List.replicate B.length gzN).length = A.length + B.length:=by simp
  have e3 : List.take A.length (A.map numC ++ List.replicate B.length gzN) = A.map numC:=by simp
  have e4 : List.drop (A.length + B.length) (A.map numC ++ List.replicate B.length gzN) = []:=List.drop_eq_nil_of_le (by simp)
  have e5 : (A.map numC ++ B.map numC).length = A.length + B.length:=by simp
  have e6 : List.take (A.length + B.length) (A.map numC ++ B.map numC) = (A ++ B).map numC:=by rw [← e5,List.take_length,List.map_append]
  have d1 : (A.length * 8 ≤ 140737488355328) = True:=eq_true (by omega)
  have d2 : ((A.length + B.length) * 8 ≤ 140737488355328) = True:=eq_true (by omega)
  simp only [int] at kg
  simp only [↓vp,vz,Nat.reduceLT,Nat.reduceEqDiff,Nat.reduceLeDiff,Nat.reduceAdd,Nat.reduceSub,Nat.reduceMul,Int.reduceBEq,Int.reduceBNe,Int.reduceLT,Int.reduceLE,Int.reduceEq,reduceIte,reduceCtorEq,da,int,boolA,dr,kg,hl,hxe_nx,hx_hx]
  rw [AW_loop]
  unfold c69L1
  simp only [↓vp,vz,Nat.reduceLT,Nat.reduceEqDiff,Nat.reduceLeDiff,Nat.reduceAdd,Nat.reduceSub,Nat.reduceMul,Int.reduceBEq,Int.reduceBNe,Int.reduceLT,Int.reduceLE,Int.reduceEq,reduceIte,reduceCtorEq,da,int,boolA,dr,hl,i0,c0,w0,rI,e0,e1,d1,allN,Nat.zero_le,Nat.le_add_right]
  rw [AW_loop]
  simp only [↓vp,vz,Nat.reduceLT,Nat.reduceEqDiff,Nat.reduceLeDiff,Nat.reduceAdd,Nat.reduceSub,Nat.reduceMul,Int.reduceBEq,Int.reduceBNe,Int.reduceLT,Int.reduceLE,Int.reduceEq,reduceIte,reduceCtorEq,da,int,boolA,dr,hl,i1,c1,w1,rI,e2,e3,e4,d2,allN,Nat.le_add_right]
  rw [AW_loop]
  simp only [↓vp,vz,Nat.reduceLT,Nat.reduceEqDiff,Nat.reduceLeDiff,Nat.reduceAdd,Nat.reduceSub,Nat.reduceMul,Int.reduceBEq,Int.reduceBNe,Int.reduceLT,Int.reduceLE,Int.reduceEq,reduceIte,reduceCtorEq,da,int,boolA,dr,rt,c69R2,e5,e6]
  try rfl
theorem dropN {H : Heap} {l : List Int} {i : Nat} (h : i ≤ l.length) : sliceA H 1 (encN l) (some (i : Int)) none none = some (encN (l.drop i)):=by
 unfold sliceA encN
 simp only [List.length_map]
 have : boundsA l.length (some (i : Int)) none none = some (i,l.length):=by
  unfold boundsA
  simp
  omega
 rw [this,Option.bind_some]
 simp only
 rw [if_pos (.inr (allN l)),List.take_of_length_le (by simp),List.map_drop]
theorem partN {H : Heap} {l : List Int} {i e : Nat} (h : i ≤ e) (h2 : e ≤ l.length) : sliceA H 1 (encN l) (some (i : Int)) (some (e : Int)) (some (e : Int)) = some (encN ((l.drop i).take (e - i))):=by
 unfold sliceA encN
 simp only [List.length_map]
 have : boundsA l.length (some (i : Int)) (some (e : Int)) (some (e : Int)) = some (i,e):=by
  unfold boundsA
  simp
  omega
 rw [this,Option.bind_some]
 simp only
 rw [if_pos (.inr (allN l)),List.map_take,List.map_drop]
theorem o86 {l : List Int} {n : Int} (hn : 1 ≤ n) {K : Heap} {Q : AV → Heap → Prop} : KW ftG (.fn (.func 86) [] []) [encN l,int n] K Q ↔ Q (.fn (.func 116) [] [.ptr K.next 0 0,.ptr (K.next + 1) 0 0]) (hx K [.box false [encN l],.box false [int n]]):=by
 refine KW_of (call_o rfl (by simp) ?_)
 unfold c86 r86 RetO
 have d1 : (n < 1) = False:=eq_false (by omega)
 simp only [↓vp,vz,Nat.reduceLT,Nat.reduceEqDiff,Nat.reduceLeDiff,Nat.reduceAdd,Nat.reduceSub,Nat.reduceMul,Int.reduceBEq,Int.reduceBNe,Int.reduceLT,Int.reduceLE,Int.reduceEq,reduceIte,reduceCtorEq,da,int,boolA,dr,d1,resultsA,resT,resN]
def chunkM (l : List Int) (n i : Nat) : List Int:=(l.drop (i * n)).take n
section
variable {l : List Int} (hlen : l.length ≤ 1000000) {n : Nat} (hn : 1 ≤ n) (hn2 : n ≤ 1000) {id bx by' : Nat} {J : Nat → Heap → Prop}
   (hbox : ∀ k K, J k K → K.get bx = some (.box false [encN l]) ∧ K.get by' = some (.box false [int n]))
   (hrun : ∀ (i : Nat), i * n < l.length → ∀ K, J i K → KW ftG (.yld id) [encN (chunkM l n i)] K fun v K' => v = .sc (.bool true) ∧ J (i + 1) K')
include hlen hn hn2 hbox hrun
theorem l116 {Q : AExit → Env → Heap → Prop} (hex : ∀ f' K i, J i K → l.length ≤ i * n → (∀ j, j < i → j * n < l.length) → Q (.exit 0) (mkE 31 f') (hx K [])) :
   ∀ (d i : Nat) (K : Heap) (f : Nat → AV), l.length ≤ i * n + d → (∀ j, j < i → j * n < l.length) → i * n ≤ 1001000 → J i K → f 0 = .yld id → f 1 = .ptr bx 0 0 → f 2 = .ptr by' 0 0 → f 4 = int ((i * n : Nat) : Int) →
    AW ftG (.loop c116L0) (mkE 31 f) (hx K []) Q := by
  intro d
  induction d with
  | zero =>
    intro i K f hd hj hb hJ f0 f1 f2 f4
    obtain ⟨z1, z2⟩ := hbox _ _ hJ
    have y1 := fun L => get_old z1 L
    have ln : ∀ H, lenV H 0 (encN l) = some (.sc (.int .i64 (l.length : Nat)), H) := fun H => lenN _
    have g : (((i * n : Nat) : Int) < l.length) = False := eq_false (by omega)
    rw [AW_loop]
    unfold c116L0
    simp only [↓vp, vz, Nat.reduceLT, Nat.reduceEqDiff, Nat.reduceLeDiff, Nat.reduceAdd, Nat.reduceSub, Nat.reduceMul, Int.reduceBEq, Int.reduceBNe, Int.reduceLT, Int.reduceLE, Int.reduceEq, reduceIte, reduceCtorEq, da, int, boolA, dr, f1, f4, y1, ln, g]
    exact hex _ K i hJ (by omega) hj
  | succ d ih =>
    intro i K f hd hj hb hJ f0 f1 f2 f4
    obtain ⟨z1, z2⟩ := hbox _ _ hJ
    have y1 := fun L => get_old z1 L
    have y2 := fun L => get_old z2 L
    have ln : ∀ H (m : List Int), lenV H 0 (encN m) = some (.sc (.int .i64 (m.length : Nat)), H) := fun H m => lenN _
    by_cases c : i * n < l.length
    · have g : (((i * n : Nat) : Int) < l.length) = True := eq_true (by omega)
      have tI : ∀ i : Int, toI (.sc (.int .i64 i)) = some i := fun _ => rfl
      have sd := fun H => @dropN H l (i * n) (by omega)
      have ld : (l.drop (i * n)).length = l.length - i * n := List.length_drop
      have hmn : ∃ m : Nat, m = min n (l.length - i * n) ∧ 1 ≤ m ∧ m ≤ n ∧ i * n + m ≤ l.length := ⟨_, rfl, by omega, by omega, by omega⟩
      obtain ⟨m, hm, m1, m2, m3⟩ := hmn
      have sp := fun H => @partN H l (i * n) (i * n + m) (by omega) (by omega)
      have ech : (l.drop (i * n)).take (i * n + m - i * n) = chunkM l n i := by
        unfold chunkM
        rw [Nat.add_sub_cancel_left, hm]
        by_cases q : n ≤ l.length - i * n
        · rw [Nat.min_eq_left q]
        · rw [Nat.min_eq_right (by omega), List.take_of_length_le (by rw [ld]; omega), List.take_of_length_le (by rw [ld]; omega)]
      have mm : (if ((l.length - i * n : Nat) : Int) < (n : Int) then ((l.length - i * n : Nat) : Int) else (n : Int)) = (m : Int) := by split <;> omega
      have w1 : IntKind.i64.wrap (((i * n : Nat) : Int) + m) = ((i * n + m : Nat) : Int) := by rw [wrap_i64 (by omega)]; omega
      have w2 : IntKind.i64.wrap (((i * n : Nat) : Int) + n) = (((i + 1) * n : Nat) : Int) := by rw [wrap_i64 (by omega), Nat.succ_mul]; omega
      simp only [int] at y2
      rw [AW_loop]
      unfold c116L0
      simp only [↓vp, vz, Nat.reduceLT, Nat.reduceEqDiff, Nat.reduceLeDiff, Nat.reduceAdd, Nat.reduceSub, Nat.reduceMul, Int.reduceBEq, Int.reduceBNe, Int.reduceLT, Int.reduceLE, Int.reduceEq, reduceIte, reduceCtorEq, da, int, boolA, dr, f0, f1, f2, f4, y1, y2, ln, g, opI1, opI0, tI, sd, ld, mm, w1, sp, ech]
      rw [hx_nil]
      obtain ⟨v, K', h1, rfl, h2⟩ := hrun i c K hJ
      rw [KW_of h1, ← hx_nil K']
      have y2' := fun L => get_old (hbox _ _ h2).2 L
      simp only [int] at y2'
      simp only [↓vp, vz, Nat.reduceLT, Nat.reduceEqDiff, Nat.reduceLeDiff, Nat.reduceAdd, Nat.reduceSub, Nat.reduceMul, Int.reduceBEq, Int.reduceBNe, Int.reduceLT, Int.reduceLE, Int.reduceEq, reduceIte, reduceCtorEq, da, int, boolA, dr, f2, f4, y2', w2]
      refine ih (i + 1) K' _ (by rw [Nat.succ_mul]; omega) (fun j hj' => ?_) (by rw [Nat.succ_mul]; omega) h2 ?_ ?_ ?_ ?_
      · rcases Nat.lt_or_ge j i with e | e
        · exact hj j e
        · obtain rfl : j = i := by omega
          exact c
      all_goals simp only [↓vp, vz, Nat.reduceLT, Nat.reduceEqDiff, Nat.reduceLeDiff, Nat.reduceAdd, Nat.reduceSub, Nat.reduceMul, Int.reduceBEq, Int.reduceBNe, Int.reduceLT, Int.reduceLE, Int.reduceEq, reduceIte, reduceCtorEq, da, int, boolA, f0, f1, f2]
    · have g : (((i * n : Nat) : Int) < l.length) = False := eq_false (by omega)
      rw [AW_loop]
      unfold c116L0
      simp only [↓vp, vz, Nat.reduceLT, Nat.reduceEqDiff, Nat.reduceLeDiff, Nat.reduceAdd, Nat.reduceSub, Nat.reduceMul, Int.reduceBEq, Int.reduceBNe, Int.reduceLT, Int.reduceLE, Int.reduceEq, reduceIte, reduceCtorEq, da, int, boolA, dr, f1, f4, y1, ln, g]
      exact hex _ K i hJ (by omega) hj
theorem o116 {K : Heap} (hJ : J 0 K) : KW ftG (.fn (.func 116) [] [.ptr bx 0 0,.ptr by' 0 0]) [.yld id] K fun _ K' => ∃ i,J i K' ∧ l.length ≤ i * n ∧ ∀ j,j < i → j * n < l.length:=by
 refine call_Wc rfl (by simp) ?_
 unfold c116 r116
 simp only [↓vp,vz,Nat.reduceLT,Nat.reduceEqDiff,Nat.reduceLeDiff,Nat.reduceAdd,Nat.reduceSub,Nat.reduceMul,Int.reduceBEq,Int.reduceBNe,Int.reduceLT,Int.reduceLE,Int.reduceEq,reduceIte,reduceCtorEq,da,int,boolA,dr]
 refine l116 hlen hn hn2 hbox hrun (fun f' K' i h1 h2 h3 => ?_) l.length 0 K _ (by omega) (fun j h => by omega) (by omega) hJ ?_ ?_ ?_ ?_
 ·simp only [↓vp,vz,Nat.reduceLT,Nat.reduceEqDiff,Nat.reduceLeDiff,Nat.reduceAdd,Nat.reduceSub,Nat.reduceMul,Int.reduceBEq,Int.reduceBNe,Int.reduceLT,Int.reduceLE,Int.reduceEq,reduceIte,reduceCtorEq,da,int,boolA,dr,rw0]
  rw [hx_nil]
  exact ⟨i,h1,h2,h3⟩
 all_goals first | (simp only [↓vp,vz,Nat.reduceLT,Nat.reduceEqDiff,Nat.reduceLeDiff,Nat.reduceAdd,Nat.reduceSub,Nat.reduceMul,Int.reduceBEq,Int.reduceBNe,Int.reduceLT,Int.reduceLE,Int.reduceEq,reduceIte,reduceCtorEq,da,int,boolA]; done) | (simp only [↓vp,vz,Nat.reduceLT,Nat.reduceEqDiff,Nat.reduceLeDiff,Nat.reduceAdd,Nat.reduceSub,Nat.reduceMul,Int.reduceBEq,Int.reduceBNe,Int.reduceLT,Int.reduceLE,Int.reduceEq,reduceIte,reduceCtorEq,da,int,boolA,Nat.zero_mul]; rfl)
end
end Go.VI
namespace Go.VI
attribute [local congr] AW_congr OW_congr DW_congr NW_congr VW_congr GW_congr PW_congr KW_congr ite_congr' GV_congr CV_congr KF_congr
def numsM (bs : List Int) (a : Nat) : List Int → List Int
 | [] => bs
 | x :: r => numsM (wrM bs a (bytesN x 4)) (a + 4) r
theorem numsM_len : ∀ (l bs : List Int) (a : Nat),a + 4 * l.length ≤ bs.length → (numsM bs a l).length = bs.length
 | [],_,_,_ => rfl
 | x :: r,bs,a,h => by
  have h1 : (wrM bs a (bytesN x 4)).length = bs.length:=wrM_len (by rw [bytesN_len]; simp at h; omega)
  unfold numsM
  rw [numsM_len r _ _ (by rw [h1]; simp at h; omega),h1]
theorem fits4 {n : Int} (h0 : 0 ≤ n) (h : n ≤ 4294967295) : fitsM n 4 = true:=by
 unfold fitsM
 have : shrM n (8 * 4) = 0:=by
  unfold shrM
  rw [show min (8 * 4 : Int).toNat 64 = 32 from rfl]
  rw [Int.fdiv_eq_ediv_of_nonneg _ (by decide)]
  omega
 rw [this,decide_eq_true h0]
 decide
section
variable {l : List Int} (hl : l.length ≤ 61) (hn : ∀ x ∈ l,0 ≤ x ∧ x ≤ 4294967295) {wid sid b3 : Nat} {bs0 : List Int} (K0 : Heap) (h3 : b3 ≠ wid) (h3' : b3 ≠ sid)
include hl hn h3 h3'
theorem l50 {Q : AExit → Env → Heap → Prop} {x10 x11 x7 x9 x5 : AV}
   (hex : ∀ f' K, WrH K wid sid (numsM bs0 4 l) (4 + 4 * l.length) false → WFr wid sid K0 K → f' 3 = .ptr b3 0 0 → f' 12 = .ptr wid 0 0 → f' 10 = x10 → f' 11 = x11 → f' 7 = x7 → f' 9 = x9 → f' 5 = x5 → Q (.exit 2) (mkE 98 f') (hx K [])) :
   ∀ (d i : Nat) (bs : List Int) (K : Heap) (f : Nat → AV), i + d = l.length → bs.length = 248 → numsM bs0 4 l = numsM bs (4 + 4 * i) (l.drop i) → WrH K wid sid bs (4 + 4 * i) false → WFr wid sid K0 K → K.get b3 = some (.box false [int 1]) → f 3 = .ptr b3 0 0 → f 12 = .ptr wid 0 0 → f 10 = x10 → f 11 = x11 → f 7 = x7 → f 9 = x9 → f 5 = x5 → f 55 = encN l → f 56 = int l.length → f 57 = int i →
    AW ftG (.loop c50L0) (mkE 98 f) (hx K []) Q := by
  intro d
  induction d with
  | zero =>
    intro i bs K f hd hbl hbs hw hf hb3 f3 f12 f10 f11 f7 f9 f5 f55 f56 f57
    have g : ((i : Int) < l.length) = False := by simp; omega
    rw [List.drop_eq_nil_of_le (by omega)] at hbs
    rw [AW_loop]
    unfold c50L0
    simp only [↓vp, vz, Nat.reduceLT, Nat.reduceEqDiff, Nat.reduceLeDiff, Nat.reduceAdd, Nat.reduceSub, Nat.reduceMul, Int.reduceBEq, Int.reduceBNe, Int.reduceLT, Int.reduceLE, Int.reduceEq, reduceIte, reduceCtorEq, da, int, boolA, dr, f56, f57, g]
    refine hex _ K (by rw [hbs]; rw [show l.length = i by omega]; exact hw) hf ?_ ?_ ?_ ?_ ?_ ?_ ?_ <;> simp only [↓vp, vz, Nat.reduceLT, Nat.reduceEqDiff, Nat.reduceLeDiff, Nat.reduceAdd, Nat.reduceSub, Nat.reduceMul, Int.reduceBEq, Int.reduceBNe, Int.reduceLT, Int.reduceLE, Int.reduceEq, reduceIte, reduceCtorEq, da, int, boolA, f3, f12, f10, f11, f7, f9, f5]
  | succ d ih =>
    intro i bs K f hd hbl hbs hw hf hb3 f3 f12 f10 f11 f7 f9 f5 f55 f56 f57
    have g1 : ((i : Int) < l.length) = True := by simp; omega
    have gi : i < l.length := by omega
    have w1 := wrap_succ (show i < 9223372036854775807 by omega)
    have a0 := fun H => @atN H l i gi
    have b0 := fun H off n => @cN H l i off n gi
    have hni := hn _ (List.getElem_mem gi)
    rw [List.drop_eq_getElem_cons gi] at hbs
    generalize l[i] = x at *
    have y3 := fun L => get_old hb3 L
    have k66' := fun K L Q => @k66 1 K L Q
    rw [show (traitM 1).2.2.1 = 4 from rfl] at k66'
    simp only [numC, int] at b0
    simp only [int] at y3 k66'
    rw [AW_loop]
    unfold c50L0
    simp only [↓vp, vz, Nat.reduceLT, Nat.reduceEqDiff, Nat.reduceLeDiff, Nat.reduceAdd, Nat.reduceSub, Nat.reduceMul, Int.reduceBEq, Int.reduceBNe, Int.reduceLT, Int.reduceLE, Int.reduceEq, reduceIte, reduceCtorEq, da, int, boolA, dr, f3, f12, f55, f56, f57, g1, a0, b0, y3, k66']
    rw [hx_nil]
    refine o88 hw (n := x) (width := 4) (fits4 hni.1 hni.2) rfl (by rw [hbl]; omega) fun K2 w2 r2 => ?_
    rw [← hx_nil K2]
    simp only [↓vp, vz, Nat.reduceLT, Nat.reduceEqDiff, Nat.reduceLeDiff, Nat.reduceAdd, Nat.reduceSub, Nat.reduceMul, Int.reduceBEq, Int.reduceBNe, Int.reduceLT, Int.reduceLE, Int.reduceEq, reduceIte, reduceCtorEq, da, int, boolA, dr, f57, w1]
    refine ih (i + 1) (wrM bs (4 + 4 * i) (bytesN x 4)) K2 _ (by omega) (by rw [wrM_len (by rw [bytesN_len, hbl]; omega), hbl]) ?_ ?_ (hf.trans r2) ?_ ?_ ?_ ?_ ?_ ?_ ?_ ?_ ?_ ?_ ?_
    · rw [hbs]
      rfl
    · exact w2
    · rw [r2.eq _ h3 h3']; exact hb3
    all_goals simp only [↓vp, vz, Nat.reduceLT, Nat.reduceEqDiff, Nat.reduceLeDiff, Nat.reduceAdd, Nat.reduceSub, Nat.reduceMul, Int.reduceBEq, Int.reduceBNe, Int.reduceLT, Int.reduceLE, Int.reduceEq, reduceIte, reduceCtorEq, da, int, boolA, f3, f12, f10, f11, f7, f9, f5, f55, f56]
end
def sqB : ACode → ACode
 | .seq _ b => b
 | .block _ c => c
 | c => c
def c50E : ACode:=sqB (sqB c50R1)
theorem c50R1_eq : c50R1 = (.seq (.region [⟨(some 67),(.load false 1 (.tmp 3)),none⟩,⟨(some 68),(.mov (.tmp 10)),none⟩,⟨(some 69),(.len 0 (.tmp 68)),none⟩,⟨(some 70),(.build [(.sc (.int .i64 0)),(.sc (.int .i64 0)),(.sc (.int .i64 0)),(.sc (.int .i64 0))] [(0,(1,(.const (.int .i64 70)))),(1,(1,(.tmp 67))),(2,(1,(.tmp 69)))]),none⟩,⟨(some 15),(.alloc [(.sc (.int .i64 0)),(.sc (.int .i64 0)),(.sc (.int .i64 0)),(.sc (.int .i64 0))]),none⟩,⟨none,(.store 4 (.tmp 15) (.tmp 70)),none⟩] false []) (.seq (.seq (.region [⟨(some 71),(.mov (.tmp 11)),none⟩,⟨(some 72),(.bin .add 3 (.tmp 71) (.const (.int .i64 1))),none⟩,⟨(some 73),(.load false 1 (.tmp 5)),none⟩,⟨(some 74),(.len 0 (.tmp 73)),none⟩,⟨(some 75),(.bin .lss 3 (.tmp 72) (.tmp 74)),none⟩] false []) (.cond (.tmp 75) (.region [⟨(some 76),(.load false 1 (.tmp 5)),none⟩,⟨(some 77),(.mov (.tmp 11)),none⟩,⟨(some 78),(.bin .add 3 (.tmp 77) (.const (.int .i64 1))),none⟩,⟨(some 79),(.iaddr none 1 (.tmp 76) (.tmp 78)),none⟩,⟨(some 80),(.load false 1 (.tmp 79)),none⟩,⟨(some 81),(.faddr 3 (.tmp 15)),none⟩,⟨none,(.store 1 (.tmp 81) (.tmp 80)),none⟩] false []) .skip)) c50E)):=rfl
theorem WrH.hx {K : Heap} {wid sid : Nat} {bs : List Int} {a : Nat} {sp : Bool} (h : WrH K wid sid bs a sp) (L : List Blk) : WrH (hx K L) wid sid bs a sp:=⟨get_old h.box L,get_old h.row L,h.le,h.small⟩
def heldK (nf k : Nat) (c : List Int) : Nat:=c.length - min (nf - k * 61) c.length
def bodyN (held : Int) (c : List Int) : List Int:=numsM (wrM (List.replicate 248 0) 0 (bytesN held 4)) 4 c
def headK (ids : List Int) (k : Nat) (c : List Int) : HeadM:=⟨70,1,c.length,if k + 1 < ids.length then ids.getD (k + 1) 0 else 0⟩
def pageK (nf : Nat) (ids : List Int) (k : Nat) (c : List Int) : List Int:=page1 (headK ids k c) (bodyN (heldK nf k c) c)
theorem bodyN_len {held : Int} {c : List Int} (h : c.length ≤ 61) : (bodyN held c).length = 248:=by
 unfold bodyN
 have h1 : (wrM (List.replicate 248 (0 : Int)) 0 (bytesN held 4)).length = 248:=by rw [wrM_len (by rw [bytesN_len,List.length_replicate]; decide),List.length_replicate]
 rw [numsM_len _ _ _ (by rw [h1]; omega),h1]
theorem fits2 {n : Int} (h0 : 0 ≤ n) (h : n ≤ 65535) : fitsM n 2 = true:=by
 unfold fitsM
 have : shrM n (8 * 2) = 0:=by
  unfold shrM
  rw [show min (8 * 2 : Int).toNat 64 = 16 from rfl]
  rw [Int.fdiv_eq_ediv_of_nonneg _ (by decide)]
  omega
 rw [this,decide_eq_true h0]
 decide
section
variable {K : Heap} {b3 b5 b7 b9 B k : Nat} {free ids c : List Int} {S : AV} {rows : List (List AV)}
   (h3 : K.get b3 = some (.box false [int 1])) (h5 : K.get b5 = some (.box false [encN ids])) (h7 : K.get b7 = some (.box false [encN free])) (h9 : K.get b9 = some (.box false [S]))
   (hS : RepB B K 1 S rows) (hk : rows.length = k) (hk2 : k ≤ 100000) (hB : B ≤ K.next) (l3 : b3 < B) (l5 : b5 < B) (l7 : b7 < B) (l9 : b9 < B) (n3 : b3 ≠ b9) (n5 : b5 ≠ b9) (n7 : b7 ≠ b9)
   (hc : c.length ≤ 61) (hcn : ∀ x ∈ c, 0 ≤ x ∧ x ≤ 4294967295) (hfree : free.length ≤ 1000000) (hids : ids.length ≤ 1000000) (hidn : ∀ x ∈ ids, 0 ≤ x ∧ x ≤ 4294967295)
   {f : Nat → AV} (f3 : f 3 = .ptr b3 0 0) (f5 : f 5 = .ptr b5 0 0) (f7 : f 7 = .ptr b7 0 0) (f9 : f 9 = .ptr b9 0 0) (f10 : f 10 = encN c) {Q : AExit → Env → Heap → Prop}
include h3 h5 h7 h9 hS hk hk2 hB l3 l5 l7 l9 n3 n5 n7 hc hcn hfree hids hidn f3 f5 f7 f9 f10
theorem b50 (hq : ∀ f' K' S',RepB B K' 1 S' (rows ++ [[encB (pageK free.length ids k c)]]) → K'.get b9 = some (.box false [S']) → K.next ≤ K'.next → (∀ j,j < B → j ≠ b9 → K'.get j = K.get j) → Q .normal (mkE 98 f') K') : AW ftG c50B2 (mkE 98 f) (hx K []) Q:=by
 have y9:=fun L => get_old h9 L
 have y3:=fun L => get_old h3 L
 have lnS : ∀ H,lenV H 0 S = some (.sc (.int .i64 (k : Int)),H):=fun H => by
  rcases hS with ⟨rfl,hr⟩ | ⟨id,_,rfl,_⟩
  ·rw [hr] at hk
   rw [← hk]
   rfl
  ·rw [hk]
   rfl
 have k83':=fun K L Q => @k83 1 K L Q
 rw [show capM 1 = 248 by decide] at k83'
 simp only [int] at y3 k83'
 unfold c50B2
 simp only [↓vp,vz,Nat.reduceLT,Nat.reduceEqDiff,Nat.reduceLeDiff,Nat.reduceAdd,Nat.reduceSub,Nat.reduceMul,Int.reduceBEq,Int.reduceBNe,Int.reduceLT,Int.reduceLE,Int.reduceEq,reduceIte,reduceCtorEq,da,int,boolA,dr,f3,f9,y9,y3,lnS,k83']
 rw [hx_nil]
 refine o87 (size:=248) (by decide) ?_
 have w0 : WrH (hx K [.row false 1 ((List.replicate 248 (0 : Int)).map byteC),curB (.sl K.next 0 248) 0 false]) (K.next + 1) K.next (List.replicate 248 0) 0 false:=⟨hx_get _ _ 1,hx_get0 _ _,by simp,by simp⟩
 have n0 : (hx K [.row false 1 ((List.replicate 248 (0 : Int)).map byteC),curB (.sl K.next 0 248) 0 false]).next = K.next + 2:=hx_next _ _
 have e0 : ∀ j,j < K.next → (hx K [.row false 1 ((List.replicate 248 (0 : Int)).map byteC),curB (.sl K.next 0 248) 0 false]).get j = K.get j:=fun j hj => hx_get_old _ _ _ hj
 generalize hx K [.row false 1 ((List.replicate 248 (0 : Int)).map byteC),curB (.sl K.next 0 248) 0 false] = K1 at *
 have z3:=fun L => get_old ((e0 b3 (by omega)).trans h3) L
 have z7:=fun L => get_old ((e0 b7 (by omega)).trans h7) L
 have lnN : ∀ H (l : List Int),lenV H 0 (encN l) = some (.sc (.int .i64 (l.length : Nat)),H):=fun H l => lenN _
 have k48':=fun K L Q => @KW_of ftG _ _ _ Q _ _ (s48 (.inl rfl) (hx K L))
 rw [show roomM 1 = 61 from rfl] at k48'
 have v48 : ∀ g : Int,pureV ftG (.fn (.func 48) [] []) [.sc (.int .i64 g)] = some (false,[]):=fun _ => rfl
 have v88 : ∀ args,pureV ftG (.fn (.func 88) [] []) args = none:=fun _ => rfl
 have v88t : ∀ args,pureV ftG (.tup [.fn (.func 88) [] []]) args = none:=fun _ => rfl
 have xf : ∀ q,exFQ (none : FP).isSome q = q:=fun q => by cases q <;> rfl
 have w1 : IntKind.i64.wrap ((k : Int) * 61) = k * 61:=wrap_i64 (by omega)
 have w2 : IntKind.i64.wrap ((free.length : Int) - k * 61) = free.length - k * 61:=wrap_i64 (by omega)
 have shN : ∀ l : List Int,shId (encN l) = []:=fun _ => rfl
 have hw : IntKind.i64.wrap ((c.length : Int) - if (c.length : Int) < (if (free.length : Int) - k * 61 < 0 then 0 else (free.length : Int) - k * 61) then (c.length : Int) else (if (free.length : Int) - k * 61 < 0 then 0 else (free.length : Int) - k * 61)) = ((heldK free.length k c : Nat) : Int):=by
  unfold heldK
  rw [wrap_i64 (by split <;> split <;> omega)]
  split <;> split <;> omega
 simp only [int] at z3 k48'
 rw [← hx_nil K1]
 simp only [↓vp,vz,Nat.reduceLT,Nat.reduceEqDiff,Nat.reduceLeDiff,Nat.reduceAdd,Nat.reduceSub,Nat.reduceMul,Int.reduceBEq,Int.reduceBNe,Int.reduceLT,Int.reduceLE,Int.reduceEq,reduceIte,reduceCtorEq,da,int,boolA,dr,f3,f7,f10,z3,z7,lnN,k48',v48,v88,v88t,xf,mkFQ_n,w1,w2,shN,hw]
 rw [hx_nil]
 have hk1 : (heldK free.length k c : Int) ≤ 61:=by unfold heldK; omega
 refine o88 w0 (n:=(heldK free.length k c : Nat)) (width:=4) (fits4 (by omega) (by omega)) rfl (by simp) fun K2 w2' r2 => ?_
 simp only [show (Int.toNat 4) = 4 from rfl] at w2'
 have l2 : (wrM (List.replicate 248 (0 : Int)) 0 (bytesN (heldK free.length k c : Nat) 4)).length = 248:=by rw [wrM_len (by rw [bytesN_len,List.length_replicate]; decide),List.length_replicate]
 have e2 : ∀ j,j < K.next → K2.get j = K.get j:=fun j hj => (r2.eq j (by omega) (by omega)).trans (e0 j hj)
 rw [← hx_nil K2]
 simp only [↓vp,vz,Nat.reduceLT,Nat.reduceEqDiff,Nat.reduceLeDiff,Nat.reduceAdd,Nat.reduceSub,Nat.reduceMul,Int.reduceBEq,Int.reduceBNe,Int.reduceLT,Int.reduceLE,Int.reduceEq,reduceIte,reduceCtorEq,da,int,boolA,dr,f10,lnN]
 refine l50 hc hcn (wid:=K.next + 1) (sid:=K.next) (b3:=b3) (bs0:=wrM (List.replicate 248 0) 0 (bytesN (heldK free.length k c : Nat) 4)) K2 (by omega) (by omega) (x10:=encN c) (x11:=int k) (x7:=.ptr b7 0 0) (x9:=.ptr b9 0 0) (x5:=.ptr b5 0 0) (fun f' K3 w3 r3 q3 q12 q10 q11 q7 q9 q5 => ?_) c.length 0 _ K2 _ (by simp) l2 rfl w2' (WFr.refl _ _ _) ((e2 b3 (by omega)).trans h3) ?_ ?_ ?_ ?_ ?_ ?_ ?_ ?_ ?_ ?_
 rotate_left
 iterate 10 first | (focus (simp only [↓vp,vz,Nat.reduceLT,Nat.reduceEqDiff,Nat.reduceLeDiff,Nat.reduceAdd,Nat.reduceSub,Nat.reduceMul,Int.reduceBEq,Int.reduceBNe,Int.reduceLT,Int.reduceLE,Int.reduceEq,reduceIte,reduceCtorEq,da,int,boolA,f3,f5,f7,f9,f10]; done)) | (focus (simp only [↓vp,vz,Nat.reduceLT,Nat.reduceEqDiff,Nat.reduceLeDiff,Nat.reduceAdd,Nat.reduceSub,Nat.reduceMul,Int.reduceBEq,Int.reduceBNe,Int.reduceLT,Int.reduceLE,Int.reduceEq,reduceIte,reduceCtorEq,da,int,boolA,f3,f5,f7,f9,f10]; rfl))
 have e3 : ∀ j,j < K.next → K3.get j = K.get j:=fun j hj => (r3.eq j (by omega) (by omega)).trans (e2 j hj)
 have z3':=fun L => get_old ((e3 b3 (by omega)).trans h3) L
 have z5':=fun L => get_old ((e3 b5 (by omega)).trans h5) L
 have wk : IntKind.i64.wrap ((k : Int) + 1) = ((k + 1 : Nat) : Int):=wrap_succ (by omega)
 have n3' : K3.next = K.next + 2:=by rw [r3.next,r2.next,n0]
 simp only [int] at z3'
 have rest : ∀ (f2 : Nat → AV) (nx : Int),nx = (headK ids k c).next → f2 9 = .ptr b9 0 0 → f2 12 = .ptr (K.next + 1) 0 0 → f2 15 = .ptr K3.next 0 0 →
   AW ftG c50E
    (mkE 98 f2) (hx K3 [.box false [int 70,int 1,int c.length,int nx]]) (blockA 1 Q):=fun f2 nx hnx g9 g12 g15 => by
  have w4:=w3.hx [.box false [int 70,int 1,int c.length,int nx]]
  have q9 : (hx K3 [.box false [int 70,int 1,int c.length,int nx]]).get b9 = some (.box false [S]):=get_old ((e3 b9 (by omega)).trans h9) _
  have qh : (hx K3 [.box false [int 70,int 1,int c.length,int nx]]).get K3.next = some (.box false [int 70,int 1,int c.length,int nx]):=hx_get0 _ _
  have e4 : ∀ j,j < K.next → (hx K3 [.box false [int 70,int 1,int c.length,int nx]]).get j = K.get j:=fun j hj => (hx_get_old _ _ _ (by omega)).trans (e3 j hj)
  have n4 : (hx K3 [.box false [int 70,int 1,int c.length,int nx]]).next = K.next + 3:=by rw [hx_next,n3']; rfl
  have eh : ∀ j,j = K3.next → j = K.next + 2:=fun j h => by omega
  generalize hx K3 [.box false [int 70,int 1,int c.length,int nx]] = K4 at *
  rw [← hx_nil K4]
  unfold c50E c50R1
  simp only [sqB]
  simp only [↓vp,vz,Nat.reduceLT,Nat.reduceEqDiff,Nat.reduceLeDiff,Nat.reduceAdd,Nat.reduceSub,Nat.reduceMul,Int.reduceBEq,Int.reduceBNe,Int.reduceLT,Int.reduceLE,Int.reduceEq,reduceIte,reduceCtorEq,da,int,boolA,dr,g12]
  rw [hx_nil]
  refine o89 w4 rfl ?_
  have q9' : (K4.set K.next (.row true 1 ((bodyN (heldK free.length k c) c).map byteC))).get b9 = some (.box false [S]):=by rw [Heap.get_set_ne _ (by omega)]; exact q9
  have qh' : (K4.set K.next (.row true 1 ((bodyN (heldK free.length k c) c).map byteC))).get K3.next = some (.box false [int 70,int 1,int c.length,int nx]):=by rw [Heap.get_set_ne _ (by omega)]; exact qh
  have e5 : ∀ j,j < K.next → (K4.set K.next (.row true 1 ((bodyN (heldK free.length k c) c).map byteC))).get j = K.get j:=fun j hj => by rw [Heap.get_set_ne _ (by omega)]; exact e4 j hj
  have n5 : (K4.set K.next (.row true 1 ((bodyN (heldK free.length k c) c).map byteC))).next = K.next + 3:=by rw [Heap.next_set]; exact n4
  change OW _ _ _ (K4.set K.next (.row true 1 ((bodyN (heldK free.length k c) c).map byteC))) _
  generalize K4.set K.next (.row true 1 ((bodyN (heldK free.length k c) c).map byteC)) = K5 at *
  have u9:=fun L => get_old q9' L
  have uh:=fun L => get_old qh' L
  have hd : (⟨70,1,c.length,nx⟩ : HeadM) = headK ids k c:=by unfold headK; rw [hnx]; rfl
  have fn : 0 ≤ (headK ids k c).next ∧ (headK ids k c).next ≤ 4294967295:=by
   unfold headK
   simp only
   split
   ·rename_i q
    rw [List.getD_eq_getElem?_getD,List.getElem?_eq_getElem q]
    exact hidn _ (List.getElem_mem q)
   ·decide
  have k90:=fun K L Q => @KW_of ftG _ _ _ Q _ _ (s90 (h:=headK ids k c) (body:=bodyN (heldK free.length k c) c) rfl rfl (show fitsM 70 1 = true by decide) (fits2 (by show (0 : Int) ≤ c.length; omega) (by show (c.length : Int) ≤ 65535; omega)) (fits4 fn.1 fn.2) (bodyN_len hc) (hx K L))
  rw [← hd] at k90
  unfold headC at k90
  simp only [int] at k90 uh
  have hlr : rows.length = k:=hk
  have ap:=fun nid L => appA_rep (K:=K5) (S:=S) (nid:=nid) (bytes:=24) (sz:=1) (rows:=rows) (by
   rcases hS with h | ⟨id,h1,h2,h3⟩
   ·exact .inl h
   ·exact .inr ⟨id,h2,by rw [e5 id (Heap.get_lt h3)]; exact h3⟩) (xs:=[[encB (pageK free.length ids k c)]]) (by simp) rfl (by rw [hlr]; simp; omega) L
  rw [hlr] at ap
  simp only [List.length_singleton] at ap
  have kl : ∀ j,j < B → (kill K5 S).get j = K5.get j:=fun j hj => by
   rcases hS with ⟨rfl,_⟩ | ⟨id,h1,rfl,_⟩
   ·rfl
   ·exact Heap.get_set_ne _ (by omega)
  have ul:=Heap.get_lt q9'
  have u9':=fun L => get_old ((kl b9 l9).trans q9') L
  have gs : ∀ L b,(hx (kill K5 S) L).set b9 b = hx ((kill K5 S).set b9 b) L:=fun L b => hx_set_old _ L b b9 (by rw [kill_next]; exact ul)
  have eP : page1 ⟨70,1,(c.length : Int),nx⟩ (bodyN (heldK free.length k c) c) = pageK free.length ids k c:=by rw [hd]; rfl
  rw [eP] at k90
  rw [← hx_nil K5]
  have eB : numsM (wrM (List.replicate 248 0) 0 (bytesN (heldK free.length k c : Nat) 4)) 4 c = bodyN (heldK free.length k c) c:=rfl
  rw [eB]
  have oP : (encB (pageK free.length ids k c)).one = true:=rfl
  have cP : (encB (pageK free.length ids k c)).cells = [encB (pageK free.length ids k c)]:=rfl
  simp only [↓vp,vz,Nat.reduceLT,Nat.reduceEqDiff,Nat.reduceLeDiff,Nat.reduceAdd,Nat.reduceSub,Nat.reduceMul,Int.reduceBEq,Int.reduceBNe,Int.reduceLT,Int.reduceLE,Int.reduceEq,reduceIte,reduceCtorEq,da,int,boolA,dr,g9,g15,u9,uh,k90,oP,cP,ap,kill_next,u9',gs]
  refine hq _ _ (.sl (K5.next + 1) 0 (k + 1)) (.inr ⟨K5.next + 1,by omega,by rw [List.length_append,hlr]; rfl,?_⟩) (get_old (Heap.get_set_self _ (by rw [kill_next]; exact ul)) _) (by rw [hx_next,Heap.next_set,kill_next]; omega) fun j hj hj9 => ?_
  ·have:=hx_get ((kill K5 S).set b9 (.box false [.sl (K5.next + 1) 0 (k + 1)])) [.row false 1 [[encB (pageK free.length ids k c)]],.row false 1 (rows ++ [[encB (pageK free.length ids k c)]])] 1
   rw [Heap.next_set,kill_next] at this
   exact this
  ·rw [hx_get_old _ _ _ (by rw [Heap.next_set,kill_next]; omega),Heap.get_set_ne _ hj9,kl j hj]
   exact e5 j (by omega)
 rw [c50R1_eq]
 by_cases cc : k + 1 < ids.length
 ·have d1 : (((k + 1 : Nat) : Int) < ids.length) = True:=eq_true (by omega)
  have a0:=fun H => @atN H ids (k + 1) cc
  have b0:=fun H off n => @cN H ids (k + 1) off n cc
  have ei : ids[k + 1] = ids.getD (k + 1) 0:=by rw [List.getD_eq_getElem?_getD,List.getElem?_eq_getElem cc]; rfl
  rw [ei] at b0
  simp only [numC,int] at b0
  simp only [↓vp,vz,Nat.reduceLT,Nat.reduceEqDiff,Nat.reduceLeDiff,Nat.reduceAdd,Nat.reduceSub,Nat.reduceMul,Int.reduceBEq,Int.reduceBNe,Int.reduceLT,Int.reduceLE,Int.reduceEq,reduceIte,reduceCtorEq,da,int,boolA,dr,q3,q5,q10,q11,z3',z5',lnN,wk,d1,a0,b0]
  refine rest _ (ids.getD (k + 1) 0) (by unfold headK; simp only; rw [if_pos cc]) ?_ ?_ ?_ <;> simp only [↓vp,vz,Nat.reduceLT,Nat.reduceEqDiff,Nat.reduceLeDiff,Nat.reduceAdd,Nat.reduceSub,Nat.reduceMul,Int.reduceBEq,Int.reduceBNe,Int.reduceLT,Int.reduceLE,Int.reduceEq,reduceIte,reduceCtorEq,da,int,boolA,q9,q12]
 ·have d1 : (((k + 1 : Nat) : Int) < ids.length) = False:=eq_false (by omega)
  simp only [↓vp,vz,Nat.reduceLT,Nat.reduceEqDiff,Nat.reduceLeDiff,Nat.reduceAdd,Nat.reduceSub,Nat.reduceMul,Int.reduceBEq,Int.reduceBNe,Int.reduceLT,Int.reduceLE,Int.reduceEq,reduceIte,reduceCtorEq,da,int,boolA,dr,q3,q5,q10,q11,z3',z5',lnN,wk,d1]
  refine rest _ 0 (by unfold headK; simp only; rw [if_neg cc]) ?_ ?_ ?_ <;> simp only [↓vp,vz,Nat.reduceLT,Nat.reduceEqDiff,Nat.reduceLeDiff,Nat.reduceAdd,Nat.reduceSub,Nat.reduceMul,Int.reduceBEq,Int.reduceBNe,Int.reduceLT,Int.reduceLE,Int.reduceEq,reduceIte,reduceCtorEq,da,int,boolA,q9,q12]
end
end Go.VI
