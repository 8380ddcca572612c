import Derived.Test.YtoinghjainpkfaaS5
import Derived.ChangeArms
import Derived.ChangeReads
import GoSem.ClaimJoined
import Derived.Below
import Derived.Test.YtoinghjainpkfaaChecked
import Derived.KernelRfl
/- What the claim hangs on, part 6: NH NI NJ NK NL NM NN NO NQ NR NS NT NU NV NW NX RA RB RF. -/
set_option linter.unusedVariables false
set_option linter.unusedSimpArgs false
set_option maxRecDepth 100000
namespace Go.VI
attribute [local congr] AW_congr OW_congr DW_congr NW_congr VW_congr GW_congr PW_congr KW_congr ite_congr' GV_congr CV_congr dx_congr dOW_congr dop_congr CP_congr AQ_congr AZ_congr callD_congr NQ_congr
/-- The table by which node.With is reckoned. -/
noncomputable def ftW : FT
  | 76 => some (.pprim (goP ft 76))
  | 101 => some (.dprim (cloD 4 64))
  | 102 => some (.prim (insP 4 64))
  | _ => none
def withI (l : List ItemM) (it : ItemM) : List ItemM := if bsIs l it.key then l.set (bsM l it.key) it else l.take (bsM l it.key) ++ it :: l.drop (bsM l it.key)
def withM (n : NodeM) (it : ItemM) : NodeM := ⟨n.leaf, withI n.items it, n.kids⟩
theorem kW_find {n : NodeM} {key : Bytes} (hn : okN n) (hl2 : n.items.length < 4000000000000000000) (hk : okB key) {K : Heap} {L : List Blk} {Q : AV → Heap → Prop} :
    KW ftW (.fn (.func 76) [] []) [.agg (nodeC n), encB key] (hx K L) Q ↔ Q (.tup [int (bsM n.items key), boolA (bsIs n.items key)]) (hx K L) := by
  refine KW_of (call_pprim (as' := [.agg (nodeC n), encB key]) (p := goP ft 76) rfl rfl ?_)
  unfold goP
  have hc : closedL [.agg (nodeC n), encB key] = true := rfl
  rw [if_pos hc, s76 n key hn hl2 hk]
  rfl
theorem dW_find : ∀ F C, calleeD ftW (.fn (.func 76) F C) = none := fun _ _ => calleeD_det rfl
theorem dW_ins : ∀ F C, calleeD ftW (.fn (.func 102) F C) = none := fun _ _ => calleeD_det rfl
theorem dW_clo : ∀ F C, calleeD ftW (.fn (.func 101) F C) = some (cloD 4 64, F, C) := fun _ _ => calleeD_d rfl
theorem hxe_get' (L : List Blk) (i : Nat) : (hx Heap.empty L).get i = L[i]? := by simp [hx, Heap.get, Heap.empty]
theorem hxe_nx (L : List Blk) : (hx Heap.empty L).next = L.length := by simp [hx, Heap.next, Heap.empty]
theorem ins_nil_eval {L : List Blk} {j : Nat} {r : List AV} (hj : L[j]? = some (.row false 4 [r])) (hr : r.length = 4) :
    insP 4 64 [.sc (.slice none 0 0), .sc (.int .i64 ((0 : Nat) : Int)), .sl j 0 1] (hx Heap.empty L) = some (.sl L.length 0 1, hx Heap.empty (L ++ [.row false 4 [r]])) := by
  have hl : j < L.length := by
    have := List.getElem?_eq_some_iff.1 hj
    exact this.1
  have hne : j ≠ L.length := by omega
  have hv : vRows (hx Heap.empty L) (hx Heap.empty L).next (.sl j 0 1) = some [r] := by
    rw [hxe_nx]
    simp only [vRows, rowU, rowsOf, hxe_get', hj]
    simp [hne]
  unfold insP cutP
  simp only [hv, Option.bind_some]
  rw [if_pos ⟨rfl, rfl, trivial, by simp [allSz, hr], by simp⟩, if_neg (by simp), hxe_nx, hxe_put, if_neg (by omega)]
  rfl
theorem ins_sl_eval {L : List Blk} {id j i len : Nat} {rows : List (List AV)} {r : List AV} (hi : L[id]? = some (.row false 4 rows)) (hlen : len = rows.length) (hj : L[j]? = some (.row false 4 [r])) (hne : j ≠ id) (hk : i ≤ len) (hb : len ≤ 1001) (hr : r.length = 4) :
    insP 4 64 [.sl id 0 len, .sc (.int .i64 (i : Int)), .sl j 0 1] (hx Heap.empty L) = some (.sl L.length 0 (len + 1), hx Heap.empty (L.set id .dead ++ [.row false 4 (rows.take i ++ r :: rows.drop i)])) := by
  have hv : vRows (hx Heap.empty L) id (.sl j 0 1) = some [r] := by
    simp only [vRows, rowU, rowsOf, hxe_get', hj]
    simp [hne]
  subst hlen
  unfold insP cutP
  simp only [hxe_get', hi, hv, Option.bind_some]
  rw [if_pos ⟨trivial, by decide, Nat.le_refl _, by omega, Int.le_refl _, by omega, by simp [allSz, hr], by simp; omega⟩]
  simp only [hxe_nx, List.take_length, Int.toNat_natCast, Nat.add_zero, List.replicate_zero, hx_nil]
  have e : (rows.take i ++ [r] ++ rows.drop i) = rows.take i ++ r :: rows.drop i := by simp
  rw [e]
  refine congrArg some (Prod.ext ?_ ?_)
  · simp only [List.length_append, List.length_cons, List.length_take, List.length_drop, AV.sl.injEq, true_and]
    omega
  · simp only [hxe_set]
    rw [hxe_put, if_neg (by simp)]
theorem kW_ins {args : List AV} {H H' : Heap} {r : AV} (h : insP 4 64 args H = some (r, H')) (hle : H.next ≤ H'.next) {Q : AV → Heap → Prop} : KW ftW (.fn (.func 102) [] []) args H Q ↔ Q r H' := k_prim rfl h hle
theorem dCall_ret {ft : FT} {κ : Caps} {n : Nat} {rs : List ARes} {body : ACode} {args : List AV} {R : AV} (hl : args.length ≤ n) (h : dx ft κ body (mkE n (ofL args)) (hx Heap.empty []) (RetP rs R)) : dCall ft κ n rs body args Heap.empty (FrzTo R) := by
  unfold dCall
  rw [enterE_mkE _ _ hl, ← hx_nil Heap.empty]
  have e : (fun (x : AExit) e Hc => leaves x = true ∧ ∃ r, resultsA Hc e rs = some r ∧ FrzTo R r Hc) = RetP rs R := by
    funext x e Hc
    apply propext
    constructor
    · rintro ⟨h1, r, h2, H3, h3⟩
      exact ⟨h1, r, H3, h2, h3⟩
    · rintro ⟨h1, r, H3, h2, h3⟩
      exact ⟨h1, r, h2, H3, h3⟩
  rw [e]
  exact h
section
variable {ft : FT} {κ : Caps} {nid : Nat} {e : Env} {H : Heap} {K : AV → Heap → Prop}
theorem xd_build (z : List AV) (ps : List (Nat × Nat × Operand)) : dop ft κ nid e H (.build z ps) K ↔ VW ft nid e H (.build z ps) K := Iff.rfl
theorem xd_iaddr (n : Option Nat) (sz : Nat) (x y : Operand) : dop ft κ nid e H (.iaddr n sz x y) K ↔ VW ft nid e H (.iaddr n sz x y) K := Iff.rfl
end
theorem bsG_le (l : List ItemM) (key : Bytes) : ∀ (n i j : Nat), i ≤ j → bsG l key n i j ≤ j
  | 0, i, j, h => h
  | n + 1, i, j, h => by
    unfold bsG
    split
    · split
      · exact bsG_le l key n _ j (by omega)
      · exact Nat.le_trans (bsG_le l key n i _ (by omega)) (by omega)
    · exact h
theorem bsM_le (l : List ItemM) (key : Bytes) : bsM l key ≤ l.length := bsG_le _ _ _ _ _ (Nat.zero_le _)
theorem bsIs_lt {l : List ItemM} {key : Bytes} (h : bsIs l key = true) : bsM l key < l.length := by
  unfold bsIs at h
  split at h
  · rename_i x hx
    exact (List.getElem?_eq_some_iff.1 hx).1
  · cases h
theorem ia_sl {L : List Blk} {id off len sz i : Nat} {fz : Bool} {rs : List (List AV)} (hL : L[id]? = some (.row fz sz rs)) (hi : i < len) : iaddrA (hx Heap.empty L) none sz (.sl id off len) (i : Int) = some (.ptr id (off + i) 0) := by
  have hr : rowSz (hx Heap.empty L) id = some sz := by unfold rowSz; rw [hxe_get', hL]
  show (if 0 ≤ (i : Int) ∧ (i : Int) < (len : Int) ∧ rowSz (hx Heap.empty L) id = some sz then some (AV.ptr id (off + (i : Int).toNat) 0) else none) = _
  rw [if_pos ⟨by omega, by omega, hr⟩]
  rfl
theorem hx_hx (K : Heap) (L M : List Blk) : hx (hx K L) M = hx K (L ++ M) := by simp [hx]
theorem cloD_I {l : List ItemM} (h0 : l ≠ []) (hb : l.length ≤ 1000) {L : List Blk} {K : AV → Heap → Prop} (hK : K (.sl (L.length + 1) 0 l.length) (hx Heap.empty (L ++ [.dead, .row false 4 (l.map itemC)]))) : cloD 4 64 [encI l] (hx Heap.empty L) K := by
  cases l with
  | nil => exact absurd rfl h0
  | cons x xs =>
    refine ⟨(x :: xs).map itemC, rfl, by simp, by simp only [List.length_map]; omega, ?_, ?_⟩
    · simp [allSz, itemC]
    · rw [hxe_nx, hx_hx, List.length_map]
      exact hK
theorem with_walk (n : NodeM) (it : ItemM) (hn : okN n) (hs : n.items.length ≤ 1000) (hit : okIt it) : dCall ftW (fun _ => none) 34 r31 c31 [.agg (nodeC n), .agg (itemC it)] Heap.empty (FrzTo (.agg (nodeC (withM n it)))) := by
  refine dCall_ret (by simp) ?_
  unfold c31 r31
  have kf := fun K L Q => @kW_find n it.key hn (by omega) hit.k K L Q
  simp only [vx, ↓vp, vq0, vq1, vq2, vq3, vr0, vr1, vr2, vr3, vr4, vr5, vr6, vr7, vr8, vr9, vr10, vr11, vr12, vr13, vr14, vr15, vr16, vr17, vr18, vr19, vr20, vr21, vr22, vr23, vr24, vr25, vr26, vr27, vr28, vr29, vr30, vr31, vr32, vr33, vr34, opS, fpS, okP, pack, nAl, allocA, shId, leaves, fillA, fillR, splice, Nat.reduceLT, Nat.reduceEqDiff, Nat.reduceLeDiff, Nat.reduceAdd, Nat.reduceSub, Nat.reduceMul, Int.reduceBEq, Int.reduceBNe, Int.reduceLT, Int.reduceLE, Int.reduceEq, reduceIte, reduceCtorEq, da, int, boolA, kf, dW_find, dW_ins, dW_clo, i_0]
  cases hl : n.items with
  | nil =>
    have e1 : bsM [] it.key = 0 := rfl
    have e2 : bsIs [] it.key = false := rfl
    have e3 : nodeC (withM n it) = [.sc (.bool n.leaf), .lst [itemC it], encK n.kids] := by
      unfold withM withI
      rw [hl, e1, e2]
      rfl
    rw [e1, e2, e3]
    refine And.intro ?_ ?_
    · simp only [vx, ↓vp, vq0, vq1, vq2, vq3, vr0, vr1, vr2, vr3, vr4, vr5, vr6, vr7, vr8, vr9, vr10, vr11, vr12, vr13, vr14, vr15, vr16, vr17, vr18, vr19, vr20, vr21, vr22, vr23, vr24, vr25, vr26, vr27, vr28, vr29, vr30, vr31, vr32, vr33, vr34, opS, fpS, okP, pack, nAl, allocA, shId, leaves, fillA, fillR, splice, Nat.reduceLT, Nat.reduceEqDiff, Nat.reduceLeDiff, Nat.reduceAdd, Nat.reduceSub, Nat.reduceMul, Int.reduceBEq, Int.reduceBNe, Int.reduceLT, Int.reduceLE, Int.reduceEq, reduceIte, reduceCtorEq, da, int, boolA, dW_find, dW_ins, dW_clo, i_0]
      refine (kW_ins (ins_nil_eval (r := itemC it) rfl rfl) (by simp only [hxe_nx]; simp)).2 ?_
      simp only [vx, ↓vp, vq0, vq1, vq2, vq3, vr0, vr1, vr2, vr3, vr4, vr5, vr6, vr7, vr8, vr9, vr10, vr11, vr12, vr13, vr14, vr15, vr16, vr17, vr18, vr19, vr20, vr21, vr22, vr23, vr24, vr25, vr26, vr27, vr28, vr29, vr30, vr31, vr32, vr33, vr34, opS, fpS, okP, pack, nAl, allocA, shId, leaves, fillA, fillR, splice, Nat.reduceLT, Nat.reduceEqDiff, Nat.reduceLeDiff, Nat.reduceAdd, Nat.reduceSub, Nat.reduceMul, Int.reduceBEq, Int.reduceBNe, Int.reduceLT, Int.reduceLE, Int.reduceEq, reduceIte, reduceCtorEq, da, int, boolA, RetP_go, resT, resC, resN, retV1, retV2, retV3, retV0, frzFZ, takeM, Option.some.injEq, xd_build, xd_iaddr, nodeC]
    · simp only [vx, ↓vp, vq0, vq1, vq2, vq3, vr0, vr1, vr2, vr3, vr4, vr5, vr6, vr7, vr8, vr9, vr10, vr11, vr12, vr13, vr14, vr15, vr16, vr17, vr18, vr19, vr20, vr21, vr22, vr23, vr24, vr25, vr26, vr27, vr28, vr29, vr30, vr31, vr32, vr33, vr34, opS, fpS, okP, pack, nAl, allocA, shId, leaves, fillA, fillR, splice, Nat.reduceLT, Nat.reduceEqDiff, Nat.reduceLeDiff, Nat.reduceAdd, Nat.reduceSub, Nat.reduceMul, Int.reduceBEq, Int.reduceBNe, Int.reduceLT, Int.reduceLE, Int.reduceEq, reduceIte, reduceCtorEq, da, int, boolA, dW_find, dW_ins, dW_clo, i_0]
      refine (kW_ins (ins_sl_eval (i := 0) (rows := []) (r := itemC it) rfl rfl rfl (by decide) (Nat.le_refl _) (by decide) rfl) (by simp only [hxe_nx]; simp)).2 ?_
      simp only [vx, ↓vp, vq0, vq1, vq2, vq3, vr0, vr1, vr2, vr3, vr4, vr5, vr6, vr7, vr8, vr9, vr10, vr11, vr12, vr13, vr14, vr15, vr16, vr17, vr18, vr19, vr20, vr21, vr22, vr23, vr24, vr25, vr26, vr27, vr28, vr29, vr30, vr31, vr32, vr33, vr34, opS, fpS, okP, pack, nAl, allocA, shId, leaves, fillA, fillR, splice, Nat.reduceLT, Nat.reduceEqDiff, Nat.reduceLeDiff, Nat.reduceAdd, Nat.reduceSub, Nat.reduceMul, Int.reduceBEq, Int.reduceBNe, Int.reduceLT, Int.reduceLE, Int.reduceEq, reduceIte, reduceCtorEq, da, int, boolA, RetP_go, resT, resC, resN, retV1, retV2, retV3, retV0, frzFZ, takeM, Option.some.injEq, xd_build, xd_iaddr, nodeC]
      try rfl
  | cons x xs =>
    rw [← hl]
    refine cloD_I (by rw [hl]; simp) hs ?_
    have e3 : nodeC (withM n it) = [.sc (.bool n.leaf), .lst ((withI n.items it).map itemC), encK n.kids] := rfl
    rw [e3]
    unfold withI
    cases e2 : bsIs n.items it.key with
    | false =>
      simp only [vx, ↓vp, vq0, vq1, vq2, vq3, vr0, vr1, vr2, vr3, vr4, vr5, vr6, vr7, vr8, vr9, vr10, vr11, vr12, vr13, vr14, vr15, vr16, vr17, vr18, vr19, vr20, vr21, vr22, vr23, vr24, vr25, vr26, vr27, vr28, vr29, vr30, vr31, vr32, vr33, vr34, opS, fpS, okP, pack, nAl, allocA, shId, leaves, fillA, fillR, splice, Nat.reduceLT, Nat.reduceEqDiff, Nat.reduceLeDiff, Nat.reduceAdd, Nat.reduceSub, Nat.reduceMul, Int.reduceBEq, Int.reduceBNe, Int.reduceLT, Int.reduceLE, Int.reduceEq, reduceIte, reduceCtorEq, da, int, boolA, dW_find, dW_ins, dW_clo, i_0]
      refine (kW_ins (ins_sl_eval (i := bsM n.items it.key) (rows := n.items.map itemC) (r := itemC it) rfl (by simp) rfl (by decide) (bsM_le _ _) (by omega) rfl) (by simp only [hxe_nx]; simp)).2 ?_
      have e4 : (n.items.map itemC).take (bsM n.items it.key) ++ itemC it :: (n.items.map itemC).drop (bsM n.items it.key) = (n.items.take (bsM n.items it.key) ++ it :: n.items.drop (bsM n.items it.key)).map itemC := by simp [List.map_take, List.map_drop]
      rw [e4]
      have hlen : (n.items.take (bsM n.items it.key) ++ it :: n.items.drop (bsM n.items it.key)).length = n.items.length + 1 := by
        have := bsM_le n.items it.key
        simp; omega
      rw [← hlen]
      simp only [vx, ↓vp, vq0, vq1, vq2, vq3, vr0, vr1, vr2, vr3, vr4, vr5, vr6, vr7, vr8, vr9, vr10, vr11, vr12, vr13, vr14, vr15, vr16, vr17, vr18, vr19, vr20, vr21, vr22, vr23, vr24, vr25, vr26, vr27, vr28, vr29, vr30, vr31, vr32, vr33, vr34, opS, fpS, okP, pack, nAl, allocA, shId, leaves, fillA, fillR, splice, Nat.reduceLT, Nat.reduceEqDiff, Nat.reduceLeDiff, Nat.reduceAdd, Nat.reduceSub, Nat.reduceMul, Int.reduceBEq, Int.reduceBNe, Int.reduceLT, Int.reduceLE, Int.reduceEq, reduceIte, reduceCtorEq, da, int, boolA, RetP_go, resT, resC, resN, retV1, retV2, retV3, retV0, frzFZ, takeM, Option.some.injEq, xd_build, xd_iaddr, nodeC]
    | true =>
      have hlt := bsIs_lt e2
      have g1 : (n.items.map itemC)[bsM n.items it.key]? = some (itemC n.items[bsM n.items it.key]) := by simp [hlt]
      have g2 : ∀ y : ItemM, itemC it ++ (itemC y).drop 4 = itemC it := fun _ => rfl
      have g3 : (n.items.map itemC).set (bsM n.items it.key) (itemC it) = (n.items.set (bsM n.items it.key) it).map itemC := by rw [List.map_set]
      have g4 : n.items.length = (n.items.set (bsM n.items it.key) it).length := by simp
      simp only [vx, ↓vp, vq0, vq1, vq2, vq3, vr0, vr1, vr2, vr3, vr4, vr5, vr6, vr7, vr8, vr9, vr10, vr11, vr12, vr13, vr14, vr15, vr16, vr17, vr18, vr19, vr20, vr21, vr22, vr23, vr24, vr25, vr26, vr27, vr28, vr29, vr30, vr31, vr32, vr33, vr34, opS, fpS, okP, pack, nAl, allocA, shId, leaves, fillA, fillR, splice, Nat.reduceLT, Nat.reduceEqDiff, Nat.reduceLeDiff, Nat.reduceAdd, Nat.reduceSub, Nat.reduceMul, Int.reduceBEq, Int.reduceBNe, Int.reduceLT, Int.reduceLE, Int.reduceEq, reduceIte, reduceCtorEq, da, int, boolA, dW_find, dW_ins, dW_clo, i_0, xd_iaddr]
      rw [ia_sl rfl hlt]
      simp only [vx, ↓vp, vq0, vq1, vq2, vq3, vr0, vr1, vr2, vr3, vr4, vr5, vr6, vr7, vr8, vr9, vr10, vr11, vr12, vr13, vr14, vr15, vr16, vr17, vr18, vr19, vr20, vr21, vr22, vr23, vr24, vr25, vr26, vr27, vr28, vr29, vr30, vr31, vr32, vr33, vr34, opS, fpS, okP, pack, nAl, allocA, shId, leaves, fillA, fillR, splice, Nat.reduceLT, Nat.reduceEqDiff, Nat.reduceLeDiff, Nat.reduceAdd, Nat.reduceSub, Nat.reduceMul, Int.reduceBEq, Int.reduceBNe, Int.reduceLT, Int.reduceLE, Int.reduceEq, reduceIte, reduceCtorEq, da, int, boolA, xd_iaddr, nodeC, g1, g2, g3]
      rw [g4]
      simp only [vx, ↓vp, vq0, vq1, vq2, vq3, vr0, vr1, vr2, vr3, vr4, vr5, vr6, vr7, vr8, vr9, vr10, vr11, vr12, vr13, vr14, vr15, vr16, vr17, vr18, vr19, vr20, vr21, vr22, vr23, vr24, vr25, vr26, vr27, vr28, vr29, vr30, vr31, vr32, vr33, vr34, opS, fpS, okP, pack, nAl, allocA, shId, leaves, fillA, fillR, splice, Nat.reduceLT, Nat.reduceEqDiff, Nat.reduceLeDiff, Nat.reduceAdd, Nat.reduceSub, Nat.reduceMul, Int.reduceBEq, Int.reduceBNe, Int.reduceLT, Int.reduceLE, Int.reduceEq, reduceIte, reduceCtorEq, da, int, boolA, RetP_go, resT, resC, resN, retV1, retV2, retV3, retV0, frzFZ, takeM, Option.some.injEq, xd_build, xd_iaddr]
open Classical in
noncomputable def relP (R : List AV → AV → Prop) (args : List AV) : Option AV := if h : ∃ r, R args r then some (Classical.choose h) else none
theorem relP_some {R : List AV → AV → Prop} {args : List AV} {r : AV} (h : relP R args = some r) : R args r := by
  unfold relP at h
  split at h
  · rename_i hx
    cases h
    exact Classical.choose_spec hx
  · cases h
theorem relP_of {R : List AV → AV → Prop} {args : List AV} {r : AV} (h : R args r) (hf : ∀ r', R args r' → r' = r) : relP R args = some r := by
  unfold relP
  have hx : ∃ r, R args r := ⟨r, h⟩
  rw [dif_pos hx, hf _ (Classical.choose_spec hx)]
theorem encB_inj {a b : Bytes} (h : encB a = encB b) : a = b := by
  unfold encB at h
  injection h with h
  exact List.map_inj_right (fun x y hxy => by unfold byteC at hxy; simpa using hxy) |>.1 h
theorem int_inj {a b : Int} (h : int a = int b) : a = b := by unfold int at h; simpa using h
theorem boolA_inj {a b : Bool} (h : boolA a = boolA b) : a = b := by unfold boolA at h; simpa using h
theorem itemC_inj {x y : ItemM} (h : itemC x = itemC y) : x = y := by
  unfold itemC at h
  simp only [List.cons.injEq, and_true] at h
  obtain ⟨h1, h2, h3, h4⟩ := h
  cases x
  cases y
  simp only [ItemM.mk.injEq]
  exact ⟨encB_inj h1, encB_inj h2, int_inj h3, int_inj h4⟩
theorem kidC_inj {x y : KidM} (h : kidC x = kidC y) : x = y := by
  unfold kidC at h
  simp only [List.cons.injEq, and_true] at h
  obtain ⟨h1, h2⟩ := h
  cases x
  cases y
  simp only [KidM.mk.injEq]
  exact ⟨encB_inj h1, int_inj h2⟩
theorem nodeC_inj {x y : NodeM} (h : nodeC x = nodeC y) : x = y := by
  unfold nodeC encI encK at h
  simp only [List.cons.injEq, and_true, AV.lst.injEq] at h
  obtain ⟨h1, h2, h3⟩ := h
  cases x
  cases y
  simp only [NodeM.mk.injEq]
  exact ⟨boolA_inj h1, (List.map_inj_right (fun _ _ => itemC_inj)).1 h2, (List.map_inj_right (fun _ _ => kidC_inj)).1 h3⟩
def WithR (args : List AV) (r : AV) : Prop := ∃ n it, okN n ∧ n.items.length ≤ 1000 ∧ okIt it ∧ args = [.agg (nodeC n), .agg (itemC it)] ∧ r = .agg (nodeC (withM n it))
noncomputable def withP : List AV → Option AV := relP WithR
theorem withP_eq {n : NodeM} {it : ItemM} (hn : okN n) (hs : n.items.length ≤ 1000) (hit : okIt it) : withP [.agg (nodeC n), .agg (itemC it)] = some (.agg (nodeC (withM n it))) :=
  relP_of ⟨n, it, hn, hs, hit, rfl, rfl⟩ fun r' ⟨n', it', _, _, _, h, h2⟩ => by
    simp only [List.cons.injEq, and_true, AV.agg.injEq] at h
    rw [h2, nodeC_inj h.1, itemC_inj h.2]
theorem withP_sl : SlD ftW 34 r31 c31 withP := fun args r h => by
  obtain ⟨n, it, hn, hs, hit, rfl, rfl⟩ := relP_some h
  exact with_walk n it hn hs hit
end Go.VI

set_option linter.unusedVariables false
set_option linter.unusedSimpArgs false
set_option maxRecDepth 100000
namespace Go.VI
attribute [local congr] AW_congr OW_congr DW_congr NW_congr VW_congr GW_congr PW_congr KW_congr ite_congr' GV_congr CV_congr
def atG (tot : Int) : Int → Nat → List Int → Nat
  | _, k, [] => k
  | s, k, x :: r => if tot ≤ 2 * (s + x) then k + 1 else atG tot (s + x) (k + 1) r
/-- Where a node is cut. -/
def atM (g : Int) (n : NodeM) : Nat := atG (roomM g n) 0 0 ((roomsM g n).take ((roomsM g n).length - 1))
theorem l85 (g : Int) (n : NodeM) (hn : okN n) (h1 : n.items.length ≤ 1000) (h2 : n.kids.length ≤ 1000) (l : List Int) (hl : l = (roomsM g n).take ((roomsM g n).length - 1)) {Q : AExit → Env → Heap → Prop}
   (hex : ∀ f', atM g n = l.length → f' 5 = encZ (roomsM g n) → Q (.exit 0) (mkE 38 f') (hx Heap.empty [.box false (nodeC n)]))
   (hret : ∀ f', f' 4 = int (atM g n) → Q .ret (mkE 38 f') (hx Heap.empty [.box false (nodeC n)])) :
   ∀ (d i : Nat) (f : Nat → AV), i + d = l.length → atM g n = atG (roomM g n) (sumZ (l.take i)) i (l.drop i) → f 1 = int g → f 2 = .ptr 0 0 0 → f 5 = encZ (roomsM g n) → f 6 = int (sumZ (l.take i)) → f 16 = encZ l → f 17 = int l.length → f 18 = int i →
    AW ft (.loop c85L0) (mkE 38 f) (hx Heap.empty [.box false (nodeC n)]) Q := by
  intro d
  have hlen : l.length ≤ 1000 := by
    have := rooms_len g h1 h2
    rw [hl]; simp; omega
  have hsm : small l := by rw [hl]; exact (rooms_small g hn).take _
  have kk := fun K L Q => @k80 g n hn h1 h2 K L Q
  simp only [int] at kk
  induction d with
  | zero =>
    intro i f hd hc q1 q2 q5 q6 q16 q17 q18
    have g1 : ((i : Int) < l.length) = False := by simp; omega
    rw [AW_loop]
    unfold c85L0
    rw [List.drop_eq_nil_of_le (by omega)] at hc
    simp only [↓vp, vq0, vq1, vq2, vq3, vr0, vr1, vr2, vr3, vr4, vr5, vr6, vr7, vr8, vr9, vr10, vr11, vr12, vr13, vr14, vr15, vr16, vr17, vr18, vr19, vr20, vr21, vr22, vr23, vr24, vr25, vr26, vr27, vr28, vr29, vr30, vr31, vr32, vr33, vr34, opS, fpS, okP, pack, nAl, allocA, shId, leaves, fillA, fillR, splice, Nat.reduceLT, Nat.reduceEqDiff, Nat.reduceLeDiff, Nat.reduceAdd, Nat.reduceSub, Nat.reduceMul, Int.reduceBEq, Int.reduceBNe, Int.reduceLT, Int.reduceLE, Int.reduceEq, reduceIte, reduceCtorEq, da, int, boolA, q17, q18, g1]
    refine hex _ ?_ ?_
    · rw [hc]; unfold atG; omega
    · simp only [↓vp, vq0, vq1, vq2, vq3, vr0, vr1, vr2, vr3, vr4, vr5, vr6, vr7, vr8, vr9, vr10, vr11, vr12, vr13, vr14, vr15, vr16, vr17, vr18, vr19, vr20, vr21, vr22, vr23, vr24, vr25, vr26, vr27, vr28, vr29, vr30, vr31, vr32, vr33, vr34, opS, fpS, okP, pack, nAl, allocA, shId, leaves, fillA, fillR, splice, Nat.reduceLT, Nat.reduceEqDiff, Nat.reduceLeDiff, Nat.reduceAdd, Nat.reduceSub, Nat.reduceMul, Int.reduceBEq, Int.reduceBNe, Int.reduceLT, Int.reduceLE, Int.reduceEq, reduceIte, reduceCtorEq, da, int, boolA, q5]
  | succ d ih =>
    intro i f hd hc q1 q2 q5 q6 q16 q17 q18
    have g1 : ((i : Int) < l.length) = True := by simp; omega
    have gi : i < l.length := by omega
    have w1 := wrap_succ (show i < 9223372036854775807 by omega)
    have e1 : sumZ (l.take (i + 1)) = sumZ (l.take i) + l[i] := by
      rw [List.take_succ_eq_append_getElem gi, sumZ_app]
      simp [sumZ]
    have b1 := sumZ_small (hsm.take (i + 1))
    have b2 : (l.take (i + 1)).length ≤ 1000 := by simp; omega
    have w2 : IntKind.i64.wrap (sumZ (l.take i) + l[i]) = sumZ (l.take (i + 1)) := by rw [← e1, wrap_i64 (by omega)]
    have w3 : IntKind.i64.wrap (2 * sumZ (l.take (i + 1))) = 2 * sumZ (l.take (i + 1)) := by rw [wrap_i64 (by omega)]
    rw [AW_loop]
    unfold c85L0
    rw [List.drop_eq_getElem_cons gi, atG, ← e1] at hc
    by_cases c1 : roomM g n ≤ 2 * sumZ (l.take (i + 1))
    · rw [if_pos c1] at hc
      simp only [↓vp, vq0, vq1, vq2, vq3, vr0, vr1, vr2, vr3, vr4, vr5, vr6, vr7, vr8, vr9, vr10, vr11, vr12, vr13, vr14, vr15, vr16, vr17, vr18, vr19, vr20, vr21, vr22, vr23, vr24, vr25, vr26, vr27, vr28, vr29, vr30, vr31, vr32, vr33, vr34, opS, fpS, okP, pack, nAl, allocA, shId, leaves, fillA, fillR, splice, Nat.reduceLT, Nat.reduceEqDiff, Nat.reduceLeDiff, Nat.reduceAdd, Nat.reduceSub, Nat.reduceMul, Int.reduceBEq, Int.reduceBNe, Int.reduceLT, Int.reduceLE, Int.reduceEq, reduceIte, reduceCtorEq, da, int, boolA, q1, q2, q5, q6, q16, q17, q18, g1, atZ gi, cZ gi, intC, kk, w1, w2, w3, c1, ge_iff_le]
      refine hret _ ?_
      simp only [↓vp, vq0, vq1, vq2, vq3, vr0, vr1, vr2, vr3, vr4, vr5, vr6, vr7, vr8, vr9, vr10, vr11, vr12, vr13, vr14, vr15, vr16, vr17, vr18, vr19, vr20, vr21, vr22, vr23, vr24, vr25, vr26, vr27, vr28, vr29, vr30, vr31, vr32, vr33, vr34, opS, fpS, okP, pack, nAl, allocA, shId, leaves, fillA, fillR, splice, Nat.reduceLT, Nat.reduceEqDiff, Nat.reduceLeDiff, Nat.reduceAdd, Nat.reduceSub, Nat.reduceMul, Int.reduceBEq, Int.reduceBNe, Int.reduceLT, Int.reduceLE, Int.reduceEq, reduceIte, reduceCtorEq, da, int, boolA, hc]
    · rw [if_neg c1] at hc
      simp only [↓vp, vq0, vq1, vq2, vq3, vr0, vr1, vr2, vr3, vr4, vr5, vr6, vr7, vr8, vr9, vr10, vr11, vr12, vr13, vr14, vr15, vr16, vr17, vr18, vr19, vr20, vr21, vr22, vr23, vr24, vr25, vr26, vr27, vr28, vr29, vr30, vr31, vr32, vr33, vr34, opS, fpS, okP, pack, nAl, allocA, shId, leaves, fillA, fillR, splice, Nat.reduceLT, Nat.reduceEqDiff, Nat.reduceLeDiff, Nat.reduceAdd, Nat.reduceSub, Nat.reduceMul, Int.reduceBEq, Int.reduceBNe, Int.reduceLT, Int.reduceLE, Int.reduceEq, reduceIte, reduceCtorEq, da, int, boolA, q1, q2, q5, q6, q16, q17, q18, g1, atZ gi, cZ gi, intC, kk, w1, w2, w3, c1, ge_iff_le]
      refine ih (i + 1) _ (by omega) hc ?_ ?_ ?_ ?_ ?_ ?_ ?_ <;> simp only [↓vp, vq0, vq1, vq2, vq3, vr0, vr1, vr2, vr3, vr4, vr5, vr6, vr7, vr8, vr9, vr10, vr11, vr12, vr13, vr14, vr15, vr16, vr17, vr18, vr19, vr20, vr21, vr22, vr23, vr24, vr25, vr26, vr27, vr28, vr29, vr30, vr31, vr32, vr33, vr34, opS, fpS, okP, pack, nAl, allocA, shId, leaves, fillA, fillR, splice, Nat.reduceLT, Nat.reduceEqDiff, Nat.reduceLeDiff, Nat.reduceAdd, Nat.reduceSub, Nat.reduceMul, Int.reduceBEq, Int.reduceBNe, Int.reduceLT, Int.reduceLE, Int.reduceEq, reduceIte, reduceCtorEq, da, int, boolA, q1, q2, q5, q16, q17]
theorem slice_lst {H : Heap} {sz : Nat} {rows : List (List AV)} {i j : Nat} (ha : allSz sz rows = true) (h : i ≤ j) (hj : j ≤ rows.length) : sliceA H sz (.lst rows) (some (i : Int)) (some (j : Int)) none = some (.lst ((rows.drop i).take (j - i))) := by
  unfold sliceA boundsA
  simp [ha, h, hj]
theorem slice_to {H : Heap} {sz : Nat} {rows : List (List AV)} {j : Nat} (hj : j ≤ rows.length) : sliceA H sz (.lst rows) none (some (j : Int)) none = some (.lst (rows.take j)) := by
  unfold sliceA boundsA
  simp [hj]
theorem slice_to3 {H : Heap} {sz : Nat} {rows : List (List AV)} {j : Nat} (hj : j ≤ rows.length) : sliceA H sz (.lst rows) none (some (j : Int)) (some (j : Int)) = some (.lst (rows.take j)) := by
  unfold sliceA boundsA
  simp [hj]
theorem slice_from {H : Heap} {sz : Nat} {rows : List (List AV)} {i : Nat} (ha : allSz sz rows = true) (hi : i ≤ rows.length) : sliceA H sz (.lst rows) (some (i : Int)) none none = some (.lst (rows.drop i)) := by
  unfold sliceA boundsA
  simp [ha, hi]
  rw [← List.length_drop, List.take_length]
theorem s85 (g : Int) (n : NodeM) (hn : okN n) (h1 : n.items.length ≤ 1000) (h2 : n.kids.length ≤ 1000) (h3 : 1 ≤ (roomsM g n).length) (H : Heap) : callL ft (.fn (.func 85) [] []) [.agg (nodeC n), int g] H = some (int (atM g n), H) := by
  refine call_p (as' := [.agg (nodeC n), int g]) rfl rfl (by simp) ?_
  unfold c85 r85
  have kk := fun K L Q => @k83 g n hn h1 h2 K L Q
  have hlen := rooms_len g h1 h2
  have w1 : IntKind.i64.wrap (((roomsM g n).length : Int) - 1) = (((roomsM g n).length - 1 : Nat) : Int) := by rw [wrap_i64 (by omega)]; omega
  have hs : ∀ H, sliceA H 1 (encZ (roomsM g n)) none (some (((roomsM g n).length - 1 : Nat) : Int)) none = some (encZ ((roomsM g n).take ((roomsM g n).length - 1))) := fun H => by
    unfold encZ
    rw [slice_to (by simp), List.map_take]
  simp only [int] at kk
  simp only [↓vp, vq0, vq1, vq2, vq3, vr0, vr1, vr2, vr3, vr4, vr5, vr6, vr7, vr8, vr9, vr10, vr11, vr12, vr13, vr14, vr15, vr16, vr17, vr18, vr19, vr20, vr21, vr22, vr23, vr24, vr25, vr26, vr27, vr28, vr29, vr30, vr31, vr32, vr33, vr34, opS, fpS, okP, pack, nAl, allocA, shId, leaves, fillA, fillR, splice, Nat.reduceLT, Nat.reduceEqDiff, Nat.reduceLeDiff, Nat.reduceAdd, Nat.reduceSub, Nat.reduceMul, Int.reduceBEq, Int.reduceBNe, Int.reduceLT, Int.reduceLE, Int.reduceEq, reduceIte, reduceCtorEq, da, int, boolA, kk, one_Z, cs_Z, lenZ, w1, hs, opI0, opI1]
  refine l85 g n hn h1 h2 _ rfl (fun f' hm q5 => ?_) (fun f' q4 => ?_) ((roomsM g n).take ((roomsM g n).length - 1)).length 0 _ (by simp) rfl ?_ ?_ ?_ ?_ ?_ ?_ ?_
  · unfold c85R1
    simp only [↓vp, vq0, vq1, vq2, vq3, vr0, vr1, vr2, vr3, vr4, vr5, vr6, vr7, vr8, vr9, vr10, vr11, vr12, vr13, vr14, vr15, vr16, vr17, vr18, vr19, vr20, vr21, vr22, vr23, vr24, vr25, vr26, vr27, vr28, vr29, vr30, vr31, vr32, vr33, vr34, opS, fpS, okP, pack, nAl, allocA, shId, leaves, fillA, fillR, splice, Nat.reduceLT, Nat.reduceEqDiff, Nat.reduceLeDiff, Nat.reduceAdd, Nat.reduceSub, Nat.reduceMul, Int.reduceBEq, Int.reduceBNe, Int.reduceLT, Int.reduceLE, Int.reduceEq, reduceIte, reduceCtorEq, da, int, boolA, RetP_go, resT, resC, resN, retV1, retV2, retV3, retV0, frzFZ, takeM, Option.some.injEq, q5, lenZ, w1]
    rw [hm]
    simp
  · simp only [↓vp, vq0, vq1, vq2, vq3, vr0, vr1, vr2, vr3, vr4, vr5, vr6, vr7, vr8, vr9, vr10, vr11, vr12, vr13, vr14, vr15, vr16, vr17, vr18, vr19, vr20, vr21, vr22, vr23, vr24, vr25, vr26, vr27, vr28, vr29, vr30, vr31, vr32, vr33, vr34, opS, fpS, okP, pack, nAl, allocA, shId, leaves, fillA, fillR, splice, Nat.reduceLT, Nat.reduceEqDiff, Nat.reduceLeDiff, Nat.reduceAdd, Nat.reduceSub, Nat.reduceMul, Int.reduceBEq, Int.reduceBNe, Int.reduceLT, Int.reduceLE, Int.reduceEq, reduceIte, reduceCtorEq, da, int, boolA, RetP_go, resT, resC, resN, retV1, retV2, retV3, retV0, frzFZ, takeM, Option.some.injEq, q4]
  all_goals first | rfl | (simp only [↓vp, vq0, vq1, vq2, vq3, vr0, vr1, vr2, vr3, vr4, vr5, vr6, vr7, vr8, vr9, vr10, vr11, vr12, vr13, vr14, vr15, vr16, vr17, vr18, vr19, vr20, vr21, vr22, vr23, vr24, vr25, vr26, vr27, vr28, vr29, vr30, vr31, vr32, vr33, vr34, opS, fpS, okP, pack, nAl, allocA, shId, leaves, fillA, fillR, splice, Nat.reduceLT, Nat.reduceEqDiff, Nat.reduceLeDiff, Nat.reduceAdd, Nat.reduceSub, Nat.reduceMul, Int.reduceBEq, Int.reduceBNe, Int.reduceLT, Int.reduceLE, Int.reduceEq, reduceIte, reduceCtorEq, da, int, boolA]; done)
theorem k85 {g : Int} {n : NodeM} (hn : okN n) (h1 : n.items.length ≤ 1000) (h2 : n.kids.length ≤ 1000) (h3 : 1 ≤ (roomsM g n).length) {K : Heap} {L : List Blk} {Q : AV → Heap → Prop} : KW ft (.fn (.func 85) [] []) [.agg (nodeC n), int g] (hx K L) Q ↔ Q (int (atM g n)) (hx K L) := KW_of (s85 g n hn h1 h2 h3 _)
end Go.VI

set_option linter.unusedVariables false
set_option linter.unusedSimpArgs false
set_option maxRecDepth 100000
namespace Go.VI
attribute [local congr] AW_congr OW_congr DW_congr NW_congr VW_congr GW_congr PW_congr KW_congr ite_congr' GV_congr CV_congr
def noKey : List KidM → List KidM
  | [] => []
  | x :: r => ⟨[], x.ref⟩ :: r
def cutM (n : NodeM) (k : Nat) : NodeM × NodeM × Bytes :=
  if n.leaf then (⟨true, n.items.take k, []⟩, ⟨true, n.items.drop k, []⟩, ((n.items[k]?).map (·.key)).getD [])
  else (⟨false, [], n.kids.take k⟩, ⟨false, [], noKey (n.kids.drop k)⟩, ((n.kids[k]?).map (·.key)).getD [])
theorem allI (l : List ItemM) : allSz 4 (l.map itemC) = true := by simp [allSz, itemC]
theorem allK (l : List KidM) : allSz 2 (l.map kidC) = true := by simp [allSz, kidC]
theorem kcloI {l : List ItemM} (h : l.length ≤ 1000) {K : Heap} {L : List Blk} {Q : AV → Heap → Prop} : KW ft (.fn (.func 101) [] []) [encI l] (hx K L) Q ↔ Q (encI l) (hx K L) := by
  refine KW_of (call_pprim (as' := [encI l]) (p := cloF 4 64) rfl rfl ?_)
  cases l with
  | nil => rfl
  | cons x xs =>
    have h1 : ((xs.map itemC).length + 1) * 64 ≤ 140737488355328 ∧ allSz 4 ((x :: xs).map itemC) = true := ⟨by simp at h ⊢; omega, allI _⟩
    show (if ((xs.map itemC).length + 1) * 64 ≤ 140737488355328 ∧ allSz 4 ((x :: xs).map itemC) = true then some (encI (x :: xs)) else none) = _
    rw [if_pos h1]
theorem ia_sl0 {L : List Blk} {id len sz : Nat} {fz : Bool} {rs : List (List AV)} (hL : L[id]? = some (.row fz sz rs)) (hi : 0 < len) : iaddrA (hx Heap.empty L) none sz (.sl id 0 len) 0 = some (.ptr id 0 0) := ia_sl (off := 0) (i := 0) hL hi
theorem kcloK {l : List KidM} (h0 : l ≠ []) (hb : l.length ≤ 1000) {L : List Blk} {Q : AV → Heap → Prop} : KW ft (.fn (.func 91) [] []) [encK l] (hx Heap.empty L) Q ↔ Q (.sl (L.length + 1) 0 l.length) (hx Heap.empty (L ++ [.dead, .row false 2 (l.map kidC)])) := by
  cases l with
  | nil => exact absurd rfl h0
  | cons x xs =>
    refine k_prim (p := cloP 2 32) rfl ?_ ?_
    · unfold cloP
      have hv : vRows (hx Heap.empty L) (hx Heap.empty L).next (encK (x :: xs)) = some ((x :: xs).map kidC) := rfl
      show ((vRows (hx Heap.empty L) (hx Heap.empty L).next (encK (x :: xs))).bind _) = _
      rw [hv, Option.bind_some, if_pos ⟨by simp, by simp only [List.length_map]; omega, allK _⟩, hxe_nx, hx_hx, List.length_map]
    · rw [hxe_nx, hxe_nx]
      simp
theorem s84 (n : NodeM) (hn : okN n) (h1 : n.items.length ≤ 1000) (h2 : n.kids.length ≤ 1000) (k : Nat) (hk : (k : Int) < manyN n) (H : Heap) : callL ft (.fn (.func 84) [] []) [.agg (nodeC n), int k] H = some (.tup [.agg (nodeC (cutM n k).1), .agg (nodeC (cutM n k).2.1), encB (cutM n k).2.2], H) := by
  refine call_p (as' := [.agg (nodeC n), int k]) rfl rfl (by simp) ?_
  unfold c84 r84
  unfold manyN at hk
  cases e : n.leaf with
  | true =>
    rw [e] at hk
    have gi : k < n.items.length := by simpa using hk
    have hs1 : ∀ H, sliceA H 4 (encI n.items) none (some (k : Int)) (some (k : Int)) = some (encI (n.items.take k)) := fun H => by
      unfold encI
      rw [slice_to3 (by simp; omega), List.map_take]
    have hs2 : ∀ H, sliceA H 4 (encI n.items) (some (k : Int)) none none = some (encI (n.items.drop k)) := fun H => by
      unfold encI
      rw [slice_from (allI _) (by simp; omega), List.map_drop]
    have kc := fun K L Q => @kcloI (n.items.drop k) (by simp; omega) K L Q
    have ec : cutM n k = (⟨true, n.items.take k, []⟩, ⟨true, n.items.drop k, []⟩, n.items[k].key) := by
      unfold cutM
      rw [e]
      simp [gi]
    rw [ec]
    have pc : pureV ft (.fn (.func 101) [] []) [encI (n.items.drop k)] = some (false, []) := rfl
    simp only [↓vp, vq0, vq1, vq2, vq3, vr0, vr1, vr2, vr3, vr4, vr5, vr6, vr7, vr8, vr9, vr10, vr11, vr12, vr13, vr14, vr15, vr16, vr17, vr18, vr19, vr20, vr21, vr22, vr23, vr24, vr25, vr26, vr27, vr28, vr29, vr30, vr31, vr32, vr33, vr34, opS, fpS, okP, pack, nAl, allocA, shId, leaves, fillA, fillR, splice, Nat.reduceLT, Nat.reduceEqDiff, Nat.reduceLeDiff, Nat.reduceAdd, Nat.reduceSub, Nat.reduceMul, Int.reduceBEq, Int.reduceBNe, Int.reduceLT, Int.reduceLE, Int.reduceEq, reduceIte, reduceCtorEq, da, int, boolA, RetP_go, resT, resC, resN, retV1, retV2, retV3, retV0, frzFZ, takeM, Option.some.injEq, e, hs1, hs2, kc, pc, atI gi, cI gi, opI0, opI1]
    exact ⟨rfl, rfl⟩
  | false =>
    rw [e] at hk
    have gi : k < n.kids.length := by simpa using hk
    have hs1 : ∀ H, sliceA H 2 (encK n.kids) none (some (k : Int)) (some (k : Int)) = some (encK (n.kids.take k)) := fun H => by
      unfold encK
      rw [slice_to3 (by simp; omega), List.map_take]
    have hs2 : ∀ H, sliceA H 2 (encK n.kids) (some (k : Int)) none none = some (encK (n.kids.drop k)) := fun H => by
      unfold encK
      rw [slice_from (allK _) (by simp; omega), List.map_drop]
    have ed : n.kids.drop k = n.kids[k] :: n.kids.drop (k + 1) := List.drop_eq_getElem_cons gi
    generalize hx0 : n.kids[k] = x at ed
    generalize hr0 : n.kids.drop (k + 1) = r at ed
    have hrl : r.length ≤ 1000 := by rw [← hr0]; simp; omega
    have ec : cutM n k = (⟨false, [], n.kids.take k⟩, ⟨false, [], ⟨[], x.ref⟩ :: r⟩, x.key) := by
      unfold cutM
      rw [e, ed]
      simp [gi, noKey, hx0]
    rw [ec]
    have hlen : (n.kids.drop k).length = r.length + 1 := by rw [ed]; rfl
    have hl1 : (x :: r).length ≤ 1000 := by rw [← ed]; simp; omega
    rw [ed] at hs2
    have kc := fun L Q => @kcloK (x :: r) (by simp) hl1 L Q
    simp only [↓vp, vq0, vq1, vq2, vq3, vr0, vr1, vr2, vr3, vr4, vr5, vr6, vr7, vr8, vr9, vr10, vr11, vr12, vr13, vr14, vr15, vr16, vr17, vr18, vr19, vr20, vr21, vr22, vr23, vr24, vr25, vr26, vr27, vr28, vr29, vr30, vr31, vr32, vr33, vr34, opS, fpS, okP, pack, nAl, allocA, shId, leaves, fillA, fillR, splice, Nat.reduceLT, Nat.reduceEqDiff, Nat.reduceLeDiff, Nat.reduceAdd, Nat.reduceSub, Nat.reduceMul, Int.reduceBEq, Int.reduceBNe, Int.reduceLT, Int.reduceLE, Int.reduceEq, reduceIte, reduceCtorEq, da, int, boolA, RetP_go, resT, resC, resN, retV1, retV2, retV3, retV0, frzFZ, takeM, Option.some.injEq, e, hs1, hs2, opI0, opI1]
    rw [kc]
    simp only [↓vp, vq0, vq1, vq2, vq3, vr0, vr1, vr2, vr3, vr4, vr5, vr6, vr7, vr8, vr9, vr10, vr11, vr12, vr13, vr14, vr15, vr16, vr17, vr18, vr19, vr20, vr21, vr22, vr23, vr24, vr25, vr26, vr27, vr28, vr29, vr30, vr31, vr32, vr33, vr34, opS, fpS, okP, pack, nAl, allocA, shId, leaves, fillA, fillR, splice, Nat.reduceLT, Nat.reduceEqDiff, Nat.reduceLeDiff, Nat.reduceAdd, Nat.reduceSub, Nat.reduceMul, Int.reduceBEq, Int.reduceBNe, Int.reduceLT, Int.reduceLE, Int.reduceEq, reduceIte, reduceCtorEq, da, int, boolA, RetP_go, resT, resC, resN, retV1, retV2, retV3, retV0, frzFZ, takeM, Option.some.injEq, List.cons_append, List.nil_append]
    rw [ia_sl0 rfl (by omega)]
    simp only [↓vp, vq0, vq1, vq2, vq3, vr0, vr1, vr2, vr3, vr4, vr5, vr6, vr7, vr8, vr9, vr10, vr11, vr12, vr13, vr14, vr15, vr16, vr17, vr18, vr19, vr20, vr21, vr22, vr23, vr24, vr25, vr26, vr27, vr28, vr29, vr30, vr31, vr32, vr33, vr34, opS, fpS, okP, pack, nAl, allocA, shId, leaves, fillA, fillR, splice, Nat.reduceLT, Nat.reduceEqDiff, Nat.reduceLeDiff, Nat.reduceAdd, Nat.reduceSub, Nat.reduceMul, Int.reduceBEq, Int.reduceBNe, Int.reduceLT, Int.reduceLE, Int.reduceEq, reduceIte, reduceCtorEq, da, int, boolA, RetP_go, resT, resC, resN, retV1, retV2, retV3, retV0, frzFZ, takeM, Option.some.injEq]
    rw [ia_sl0 rfl (by omega)]
    simp only [↓vp, vq0, vq1, vq2, vq3, vr0, vr1, vr2, vr3, vr4, vr5, vr6, vr7, vr8, vr9, vr10, vr11, vr12, vr13, vr14, vr15, vr16, vr17, vr18, vr19, vr20, vr21, vr22, vr23, vr24, vr25, vr26, vr27, vr28, vr29, vr30, vr31, vr32, vr33, vr34, opS, fpS, okP, pack, nAl, allocA, shId, leaves, fillA, fillR, splice, Nat.reduceLT, Nat.reduceEqDiff, Nat.reduceLeDiff, Nat.reduceAdd, Nat.reduceSub, Nat.reduceMul, Int.reduceBEq, Int.reduceBNe, Int.reduceLT, Int.reduceLE, Int.reduceEq, reduceIte, reduceCtorEq, da, int, boolA, RetP_go, resT, resC, resN, retV1, retV2, retV3, retV0, frzFZ, takeM, Option.some.injEq, hs1, opI0, opI1]
    rfl
theorem k84 {n : NodeM} (hn : okN n) (h1 : n.items.length ≤ 1000) (h2 : n.kids.length ≤ 1000) {k : Nat} (hk : (k : Int) < manyN n) {K : Heap} {L : List Blk} {Q : AV → Heap → Prop} : KW ft (.fn (.func 84) [] []) [.agg (nodeC n), int k] (hx K L) Q ↔ Q (.tup [.agg (nodeC (cutM n k).1), .agg (nodeC (cutM n k).2.1), encB (cutM n k).2.2]) (hx K L) := KW_of (s84 n hn h1 h2 k hk _)
end Go.VI

set_option linter.unusedVariables false
set_option linter.unusedSimpArgs false
set_option maxRecDepth 100000
namespace Go.VI
attribute [local congr] AW_congr OW_congr DW_congr NW_congr VW_congr GW_congr PW_congr KW_congr ite_congr' GV_congr CV_congr
def sliceM (n : NodeM) (i j : Nat) : NodeM :=
  if n.leaf then ⟨true, (n.items.drop i).take (j - i), []⟩ else ⟨false, [], if i = 0 then (n.kids.drop i).take (j - i) else noKey ((n.kids.drop i).take (j - i))⟩
theorem s87 (n : NodeM) (h1 : n.items.length ≤ 1000) (h2 : n.kids.length ≤ 1000) (i j : Nat) (hij : i < j) (hj : (j : Int) ≤ manyN n) (H : Heap) : callL ft (.fn (.func 87) [] []) [.agg (nodeC n), int i, int j] H = some (.agg (nodeC (sliceM n i j)), H) := by
  refine call_p (as' := [.agg (nodeC n), int i, int j]) rfl rfl (by simp) ?_
  unfold c87 r87
  unfold manyN at hj
  cases e : n.leaf with
  | true =>
    rw [e] at hj
    have gi : j ≤ n.items.length := by simpa using hj
    have hs : ∀ H, sliceA H 4 (encI n.items) (some (i : Int)) (some (j : Int)) none = some (.lst (((n.items.drop i).take (j - i)).map itemC)) := fun H => by
      unfold encI
      rw [slice_lst (allI _) (by omega) (by simpa using gi), List.map_take, List.map_drop]
    have ec : sliceM n i j = ⟨true, (n.items.drop i).take (j - i), []⟩ := by unfold sliceM; rw [e]; rfl
    rw [ec]
    generalize hl : (n.items.drop i).take (j - i) = l at hs
    have hlen : l.length = j - i := by rw [← hl]; simp; omega
    have ha := allI l
    have d1 : (l.length ≤ 0) = False := eq_false (by omega)
    have d2 : (l.length * 64 ≤ 140737488355328) = True := eq_true (by omega)
    simp only [↓vp, vq0, vq1, vq2, vq3, vr0, vr1, vr2, vr3, vr4, vr5, vr6, vr7, vr8, vr9, vr10, vr11, vr12, vr13, vr14, vr15, vr16, vr17, vr18, vr19, vr20, vr21, vr22, vr23, vr24, vr25, vr26, vr27, vr28, vr29, vr30, vr31, vr32, vr33, vr34, opS, fpS, okP, pack, nAl, allocA, shId, leaves, fillA, fillR, splice, Nat.reduceLT, Nat.reduceEqDiff, Nat.reduceLeDiff, Nat.reduceAdd, Nat.reduceSub, Nat.reduceMul, Int.reduceBEq, Int.reduceBNe, Int.reduceLT, Int.reduceLE, Int.reduceEq, reduceIte, reduceCtorEq, da, int, boolA, RetP_go, resT, resC, resN, retV1, retV2, retV3, retV0, frzFZ, takeM, Option.some.injEq, e, hs, opI0, opI1, List.length_map, ha, d1, d2]
    try rfl
  | false =>
    rw [e] at hj
    have gi : j ≤ n.kids.length := by simpa using hj
    have hs : ∀ H, sliceA H 2 (encK n.kids) (some (i : Int)) (some (j : Int)) none = some (.lst (((n.kids.drop i).take (j - i)).map kidC)) := fun H => by
      unfold encK
      rw [slice_lst (allK _) (by omega) (by simpa using gi), List.map_take, List.map_drop]
    have ec : sliceM n i j = ⟨false, [], if i = 0 then (n.kids.drop i).take (j - i) else noKey ((n.kids.drop i).take (j - i))⟩ := by unfold sliceM; rw [e]; rfl
    rw [ec]
    generalize hl : (n.kids.drop i).take (j - i) = l at hs
    have hlen : l.length = j - i := by rw [← hl]; simp; omega
    cases l with
    | nil => simp at hlen; omega
    | cons x r =>
      have ha := allK (x :: r)
      have hrl : r.length + 1 ≤ 1000 := by
        have : (x :: r).length = r.length + 1 := rfl
        omega
      have d1 : ((x :: r).length ≤ 0) = False := eq_false (by simp)
      have d2 : ((x :: r).length * 32 ≤ 140737488355328) = True := eq_true (by simp only [List.length_cons]; omega)
      by_cases h0 : i = 0
      · have g0 : ((i : Int) > 0) = False := eq_false (by omega)
        rw [if_pos h0]
        simp only [↓vp, vq0, vq1, vq2, vq3, vr0, vr1, vr2, vr3, vr4, vr5, vr6, vr7, vr8, vr9, vr10, vr11, vr12, vr13, vr14, vr15, vr16, vr17, vr18, vr19, vr20, vr21, vr22, vr23, vr24, vr25, vr26, vr27, vr28, vr29, vr30, vr31, vr32, vr33, vr34, opS, fpS, okP, pack, nAl, allocA, shId, leaves, fillA, fillR, splice, Nat.reduceLT, Nat.reduceEqDiff, Nat.reduceLeDiff, Nat.reduceAdd, Nat.reduceSub, Nat.reduceMul, Int.reduceBEq, Int.reduceBNe, Int.reduceLT, Int.reduceLE, Int.reduceEq, reduceIte, reduceCtorEq, da, int, boolA, RetP_go, resT, resC, resN, retV1, retV2, retV3, retV0, frzFZ, takeM, Option.some.injEq, e, hs, opI0, opI1, List.length_map, ha, d1, d2, g0]
        rw [if_pos ⟨by omega, allK r⟩]
        rfl
      · have g0 : ((i : Int) > 0) = True := eq_true (by omega)
        rw [if_neg h0]
        simp only [↓vp, vq0, vq1, vq2, vq3, vr0, vr1, vr2, vr3, vr4, vr5, vr6, vr7, vr8, vr9, vr10, vr11, vr12, vr13, vr14, vr15, vr16, vr17, vr18, vr19, vr20, vr21, vr22, vr23, vr24, vr25, vr26, vr27, vr28, vr29, vr30, vr31, vr32, vr33, vr34, opS, fpS, okP, pack, nAl, allocA, shId, leaves, fillA, fillR, splice, Nat.reduceLT, Nat.reduceEqDiff, Nat.reduceLeDiff, Nat.reduceAdd, Nat.reduceSub, Nat.reduceMul, Int.reduceBEq, Int.reduceBNe, Int.reduceLT, Int.reduceLE, Int.reduceEq, reduceIte, reduceCtorEq, da, int, boolA, RetP_go, resT, resC, resN, retV1, retV2, retV3, retV0, frzFZ, takeM, Option.some.injEq, e, hs, opI0, opI1, List.length_map, ha, d1, d2, g0]
        rw [ia_sl0 rfl (by simp)]
        simp only [↓vp, vq0, vq1, vq2, vq3, vr0, vr1, vr2, vr3, vr4, vr5, vr6, vr7, vr8, vr9, vr10, vr11, vr12, vr13, vr14, vr15, vr16, vr17, vr18, vr19, vr20, vr21, vr22, vr23, vr24, vr25, vr26, vr27, vr28, vr29, vr30, vr31, vr32, vr33, vr34, opS, fpS, okP, pack, nAl, allocA, shId, leaves, fillA, fillR, splice, Nat.reduceLT, Nat.reduceEqDiff, Nat.reduceLeDiff, Nat.reduceAdd, Nat.reduceSub, Nat.reduceMul, Int.reduceBEq, Int.reduceBNe, Int.reduceLT, Int.reduceLE, Int.reduceEq, reduceIte, reduceCtorEq, da, int, boolA, RetP_go, resT, resC, resN, retV1, retV2, retV3, retV0, frzFZ, takeM, Option.some.injEq]
        rw [ia_sl0 rfl (by simp)]
        simp only [↓vp, vq0, vq1, vq2, vq3, vr0, vr1, vr2, vr3, vr4, vr5, vr6, vr7, vr8, vr9, vr10, vr11, vr12, vr13, vr14, vr15, vr16, vr17, vr18, vr19, vr20, vr21, vr22, vr23, vr24, vr25, vr26, vr27, vr28, vr29, vr30, vr31, vr32, vr33, vr34, opS, fpS, okP, pack, nAl, allocA, shId, leaves, fillA, fillR, splice, Nat.reduceLT, Nat.reduceEqDiff, Nat.reduceLeDiff, Nat.reduceAdd, Nat.reduceSub, Nat.reduceMul, Int.reduceBEq, Int.reduceBNe, Int.reduceLT, Int.reduceLE, Int.reduceEq, reduceIte, reduceCtorEq, da, int, boolA, RetP_go, resT, resC, resN, retV1, retV2, retV3, retV0, frzFZ, takeM, Option.some.injEq]
        rw [if_pos ⟨by omega, allK r⟩]
        rfl
theorem k87 {n : NodeM} (h1 : n.items.length ≤ 1000) (h2 : n.kids.length ≤ 1000) {i j : Nat} (hij : i < j) (hj : (j : Int) ≤ manyN n) {K : Heap} {L : List Blk} {Q : AV → Heap → Prop} : KW ft (.fn (.func 87) [] []) [.agg (nodeC n), int i, int j] (hx K L) Q ↔ Q (.agg (nodeC (sliceM n i j))) (hx K L) := KW_of (s87 n h1 h2 i j hij hj _)
end Go.VI

set_option linter.unusedVariables false
set_option linter.unusedSimpArgs false
set_option maxRecDepth 100000
namespace Go.VI
attribute [local congr] AW_congr OW_congr DW_congr NW_congr VW_congr GW_congr PW_congr KW_congr ite_congr' GV_congr CV_congr
def keyC (b : Bytes) : List AV := [encB b]
def encKs (l : List Bytes) : AV := .lst (l.map keyC)
def keysM (n : NodeM) : List Bytes := n.items.map (·.key) ++ (n.kids.drop 1).map (·.key)
theorem l142a (n : NodeM) (hs : n.items.length ≤ 1000) {Q : AExit → Env → Heap → Prop}
   (hex : ∀ f' K S, Rep K 1 S (n.items.map fun x => keyC x.key) → K.get 0 = some (.box false (nodeC n)) → f' 1 = .ptr 0 0 0 → f' 3 = S → Q (.exit 0) (mkE 38 f') (hx K [])) :
   ∀ (d i : Nat) (S : AV) (K : Heap) (f : Nat → AV), i + d = n.items.length → Rep K 1 S ((n.items.take i).map fun x => keyC x.key) → K.get 0 = some (.box false (nodeC n)) →
    f 1 = .ptr 0 0 0 → f 3 = S → f 9 = encI n.items → f 10 = int n.items.length → f 11 = int i →
    AW ft (.loop c142L0) (mkE 38 f) (hx K []) Q := by
  intro d
  induction d with
  | zero =>
    intro i S K f hd hr k0 h1 h3 h9 h10 h11
    have g : ((i : Int) < n.items.length) = False := by simp; omega
    rw [AW_loop]
    unfold c142L0
    rw [List.take_of_length_le (by omega)] at hr
    simp only [↓vp, vq0, vq1, vq2, vq3, vr0, vr1, vr2, vr3, vr4, vr5, vr6, vr7, vr8, vr9, vr10, vr11, vr12, vr13, vr14, vr15, vr16, vr17, vr18, vr19, vr20, vr21, vr22, vr23, vr24, vr25, vr26, vr27, vr28, vr29, vr30, vr31, vr32, vr33, vr34, opS, fpS, okP, pack, nAl, allocA, shId, leaves, fillA, fillR, splice, Nat.reduceLT, Nat.reduceEqDiff, Nat.reduceLeDiff, Nat.reduceAdd, Nat.reduceSub, Nat.reduceMul, Int.reduceBEq, Int.reduceBNe, Int.reduceLT, Int.reduceLE, Int.reduceEq, reduceIte, reduceCtorEq, da, int, boolA, h10, h11, g]
    refine hex _ K S hr k0 ?_ ?_ <;> simp only [↓vp, vq0, vq1, vq2, vq3, vr0, vr1, vr2, vr3, vr4, vr5, vr6, vr7, vr8, vr9, vr10, vr11, vr12, vr13, vr14, vr15, vr16, vr17, vr18, vr19, vr20, vr21, vr22, vr23, vr24, vr25, vr26, vr27, vr28, vr29, vr30, vr31, vr32, vr33, vr34, opS, fpS, okP, pack, nAl, allocA, shId, leaves, fillA, fillR, splice, Nat.reduceLT, Nat.reduceEqDiff, Nat.reduceLeDiff, Nat.reduceAdd, Nat.reduceSub, Nat.reduceMul, Int.reduceBEq, Int.reduceBNe, Int.reduceLT, Int.reduceLE, Int.reduceEq, reduceIte, reduceCtorEq, da, int, boolA, h1, h3]
  | succ d ih =>
    intro i S K f hd hr k0 h1 h3 h9 h10 h11
    have g : ((i : Int) < n.items.length) = True := by simp; omega
    have gi : i < n.items.length := by omega
    have w1 := wrap_succ (show i < 9223372036854775807 by omega)
    have ht := rep_take (fun x : ItemM => keyC x.key) gi
    have hlen : ((n.items.take i).map fun x => keyC x.key).length = i := by simp; omega
    have ap := fun nid L => appA_rep (nid := nid) (bytes := 24) hr (xs := [keyC n.items[i].key]) (by simp) rfl (by rw [hlen]; simp; omega) L
    rw [AW_loop]
    unfold c142L0
    simp only [keyC] at ap
    have hlt : (n.items.take i).length = i := by simp; omega
    simp only [↓vp, vq0, vq1, vq2, vq3, vr0, vr1, vr2, vr3, vr4, vr5, vr6, vr7, vr8, vr9, vr10, vr11, vr12, vr13, vr14, vr15, vr16, vr17, vr18, vr19, vr20, vr21, vr22, vr23, vr24, vr25, vr26, vr27, vr28, vr29, vr30, vr31, vr32, vr33, vr34, opS, fpS, okP, pack, nAl, allocA, shId, leaves, fillA, fillR, splice, Nat.reduceLT, Nat.reduceEqDiff, Nat.reduceLeDiff, Nat.reduceAdd, Nat.reduceSub, Nat.reduceMul, Int.reduceBEq, Int.reduceBNe, Int.reduceLT, Int.reduceLE, Int.reduceEq, reduceIte, reduceCtorEq, da, int, boolA, h1, h3, h9, h10, h11, g, atI gi, cI gi, ap, kill_next, w1, hlt]
    rw [← hx_nil (hx _ _)]
    refine ih (i + 1) (.sl (K.next + 2) 0 (i + 1)) _ _ (by omega) (.inr ⟨K.next + 2, ?_, ?_⟩) (kill_old hr k0 (fun r h => by cases h) _) ?_ ?_ ?_ ?_ ?_
    · rw [ht, List.length_append, hlen]
      rfl
    · rw [ht]
      simp only [↓vp, vq0, vq1, vq2, vq3, vr0, vr1, vr2, vr3, vr4, vr5, vr6, vr7, vr8, vr9, vr10, vr11, vr12, vr13, vr14, vr15, vr16, vr17, vr18, vr19, vr20, vr21, vr22, vr23, vr24, vr25, vr26, vr27, vr28, vr29, vr30, vr31, vr32, vr33, vr34, opS, fpS, okP, pack, nAl, allocA, shId, leaves, fillA, fillR, splice, Nat.reduceLT, Nat.reduceEqDiff, Nat.reduceLeDiff, Nat.reduceAdd, Nat.reduceSub, Nat.reduceMul, Int.reduceBEq, Int.reduceBNe, Int.reduceLT, Int.reduceLE, Int.reduceEq, reduceIte, reduceCtorEq, kill_next]
      rfl
    all_goals simp only [↓vp, vq0, vq1, vq2, vq3, vr0, vr1, vr2, vr3, vr4, vr5, vr6, vr7, vr8, vr9, vr10, vr11, vr12, vr13, vr14, vr15, vr16, vr17, vr18, vr19, vr20, vr21, vr22, vr23, vr24, vr25, vr26, vr27, vr28, vr29, vr30, vr31, vr32, vr33, vr34, opS, fpS, okP, pack, nAl, allocA, shId, leaves, fillA, fillR, splice, Nat.reduceLT, Nat.reduceEqDiff, Nat.reduceLeDiff, Nat.reduceAdd, Nat.reduceSub, Nat.reduceMul, Int.reduceBEq, Int.reduceBNe, Int.reduceLT, Int.reduceLE, Int.reduceEq, reduceIte, reduceCtorEq, da, int, boolA, h1, h9, h10, hlt]
theorem l142b (n : NodeM) (hs : n.kids.length ≤ 1000) (rows : List (List AV)) (hrw : rows.length ≤ 1000) {Q : AExit → Env → Heap → Prop}
   (hex : ∀ f' K S, Rep K 1 S (rows ++ ((n.kids.drop 1).map fun x => keyC x.key)) → f' 3 = S → Q (.exit 2) (mkE 38 f') (hx K [])) :
   ∀ (d i : Nat) (S : AV) (K : Heap) (f : Nat → AV), i + d = n.kids.length → Rep K 1 S (rows ++ (((n.kids.take i).drop 1).map fun x => keyC x.key)) →
    f 3 = S → f 22 = encK n.kids → f 23 = int n.kids.length → f 24 = int i →
    AW ft (.loop c142L1) (mkE 38 f) (hx K []) Q := by
  intro d
  induction d with
  | zero =>
    intro i S K f hd hr h3 h9 h10 h11
    have g : ((i : Int) < n.kids.length) = False := by simp; omega
    rw [AW_loop]
    unfold c142L1
    rw [List.take_of_length_le (by omega)] at hr
    simp only [↓vp, vq0, vq1, vq2, vq3, vr0, vr1, vr2, vr3, vr4, vr5, vr6, vr7, vr8, vr9, vr10, vr11, vr12, vr13, vr14, vr15, vr16, vr17, vr18, vr19, vr20, vr21, vr22, vr23, vr24, vr25, vr26, vr27, vr28, vr29, vr30, vr31, vr32, vr33, vr34, opS, fpS, okP, pack, nAl, allocA, shId, leaves, fillA, fillR, splice, Nat.reduceLT, Nat.reduceEqDiff, Nat.reduceLeDiff, Nat.reduceAdd, Nat.reduceSub, Nat.reduceMul, Int.reduceBEq, Int.reduceBNe, Int.reduceLT, Int.reduceLE, Int.reduceEq, reduceIte, reduceCtorEq, da, int, boolA, h10, h11, g]
    refine hex _ K S hr ?_
    simp only [↓vp, vq0, vq1, vq2, vq3, vr0, vr1, vr2, vr3, vr4, vr5, vr6, vr7, vr8, vr9, vr10, vr11, vr12, vr13, vr14, vr15, vr16, vr17, vr18, vr19, vr20, vr21, vr22, vr23, vr24, vr25, vr26, vr27, vr28, vr29, vr30, vr31, vr32, vr33, vr34, opS, fpS, okP, pack, nAl, allocA, shId, leaves, fillA, fillR, splice, Nat.reduceLT, Nat.reduceEqDiff, Nat.reduceLeDiff, Nat.reduceAdd, Nat.reduceSub, Nat.reduceMul, Int.reduceBEq, Int.reduceBNe, Int.reduceLT, Int.reduceLE, Int.reduceEq, reduceIte, reduceCtorEq, da, int, boolA, h3]
  | succ d ih =>
    intro i S K f hd hr h3 h9 h10 h11
    have g : ((i : Int) < n.kids.length) = True := by simp; omega
    have gi : i < n.kids.length := by omega
    have w1 := wrap_succ (show i < 9223372036854775807 by omega)
    rw [AW_loop]
    unfold c142L1
    by_cases h0 : i = 0
    · subst h0
      have g0 : ((0 : Int) < ((0 : Nat) : Int)) = False := by simp
      simp only [↓vp, vq0, vq1, vq2, vq3, vr0, vr1, vr2, vr3, vr4, vr5, vr6, vr7, vr8, vr9, vr10, vr11, vr12, vr13, vr14, vr15, vr16, vr17, vr18, vr19, vr20, vr21, vr22, vr23, vr24, vr25, vr26, vr27, vr28, vr29, vr30, vr31, vr32, vr33, vr34, opS, fpS, okP, pack, nAl, allocA, shId, leaves, fillA, fillR, splice, Nat.reduceLT, Nat.reduceEqDiff, Nat.reduceLeDiff, Nat.reduceAdd, Nat.reduceSub, Nat.reduceMul, Int.reduceBEq, Int.reduceBNe, Int.reduceLT, Int.reduceLE, Int.reduceEq, reduceIte, reduceCtorEq, da, int, boolA, h3, h9, h10, h11, g, g0, atK gi, cK gi, w1]
      rw [← hx_nil (hx _ _)]
      refine ih 1 S _ _ (by omega) ?_ ?_ ?_ ?_ ?_
      · have : (n.kids.take 1).drop 1 = [] := by simp
        rw [this]
        rw [List.take_zero, List.drop_nil] at hr
        exact hr.mono fun id h => get_old h _
      all_goals simp only [↓vp, vq0, vq1, vq2, vq3, vr0, vr1, vr2, vr3, vr4, vr5, vr6, vr7, vr8, vr9, vr10, vr11, vr12, vr13, vr14, vr15, vr16, vr17, vr18, vr19, vr20, vr21, vr22, vr23, vr24, vr25, vr26, vr27, vr28, vr29, vr30, vr31, vr32, vr33, vr34, opS, fpS, okP, pack, nAl, allocA, shId, leaves, fillA, fillR, splice, Nat.reduceLT, Nat.reduceEqDiff, Nat.reduceLeDiff, Nat.reduceAdd, Nat.reduceSub, Nat.reduceMul, Int.reduceBEq, Int.reduceBNe, Int.reduceLT, Int.reduceLE, Int.reduceEq, reduceIte, reduceCtorEq, da, int, boolA, h3, h9, h10]
    · have g0 : ((0 : Int) < (i : Int)) = True := eq_true (by omega)
      have ht : ((n.kids.take (i + 1)).drop 1) = ((n.kids.take i).drop 1) ++ [n.kids[i]] := by
        rw [List.take_succ_eq_append_getElem gi, List.drop_append_of_le_length (by simp; omega)]
      have hlen : (rows ++ (((n.kids.take i).drop 1).map fun x => keyC x.key)).length ≤ 2000 := by simp; omega
      have ap := fun nid L => appA_rep (nid := nid) (bytes := 24) hr (xs := [keyC n.kids[i].key]) (by simp) rfl (by simp only [List.length_singleton]; omega) L
      simp only [keyC] at ap
      simp only [↓vp, vq0, vq1, vq2, vq3, vr0, vr1, vr2, vr3, vr4, vr5, vr6, vr7, vr8, vr9, vr10, vr11, vr12, vr13, vr14, vr15, vr16, vr17, vr18, vr19, vr20, vr21, vr22, vr23, vr24, vr25, vr26, vr27, vr28, vr29, vr30, vr31, vr32, vr33, vr34, opS, fpS, okP, pack, nAl, allocA, shId, leaves, fillA, fillR, splice, Nat.reduceLT, Nat.reduceEqDiff, Nat.reduceLeDiff, Nat.reduceAdd, Nat.reduceSub, Nat.reduceMul, Int.reduceBEq, Int.reduceBNe, Int.reduceLT, Int.reduceLE, Int.reduceEq, reduceIte, reduceCtorEq, da, int, boolA, h3, h9, h10, h11, g, g0, atK gi, cK gi, ap, kill_next, w1]
      rw [← hx_nil (hx _ _)]
      refine ih (i + 1) (.sl (K.next + 2) 0 (rows ++ (((n.kids.take (i + 1)).drop 1).map fun x => keyC x.key)).length) _ _ (by omega) (.inr ⟨K.next + 2, ?_, ?_⟩) ?_ ?_ ?_ ?_
      · rfl
      · rw [ht]
        simp only [↓vp, vq0, vq1, vq2, vq3, vr0, vr1, vr2, vr3, vr4, vr5, vr6, vr7, vr8, vr9, vr10, vr11, vr12, vr13, vr14, vr15, vr16, vr17, vr18, vr19, vr20, vr21, vr22, vr23, vr24, vr25, vr26, vr27, vr28, vr29, vr30, vr31, vr32, vr33, vr34, opS, fpS, okP, pack, nAl, allocA, shId, leaves, fillA, fillR, splice, Nat.reduceLT, Nat.reduceEqDiff, Nat.reduceLeDiff, Nat.reduceAdd, Nat.reduceSub, Nat.reduceMul, Int.reduceBEq, Int.reduceBNe, Int.reduceLT, Int.reduceLE, Int.reduceEq, reduceIte, reduceCtorEq, kill_next, List.map_append, List.append_assoc]
        rfl
      · rw [ht]
        simp only [↓vp, vq0, vq1, vq2, vq3, vr0, vr1, vr2, vr3, vr4, vr5, vr6, vr7, vr8, vr9, vr10, vr11, vr12, vr13, vr14, vr15, vr16, vr17, vr18, vr19, vr20, vr21, vr22, vr23, vr24, vr25, vr26, vr27, vr28, vr29, vr30, vr31, vr32, vr33, vr34, opS, fpS, okP, pack, nAl, allocA, shId, leaves, fillA, fillR, splice, Nat.reduceLT, Nat.reduceEqDiff, Nat.reduceLeDiff, Nat.reduceAdd, Nat.reduceSub, Nat.reduceMul, Int.reduceBEq, Int.reduceBNe, Int.reduceLT, Int.reduceLE, Int.reduceEq, reduceIte, reduceCtorEq, da, int, boolA, List.map_append, List.length_append, Nat.add_assoc, keyC]
      all_goals simp only [↓vp, vq0, vq1, vq2, vq3, vr0, vr1, vr2, vr3, vr4, vr5, vr6, vr7, vr8, vr9, vr10, vr11, vr12, vr13, vr14, vr15, vr16, vr17, vr18, vr19, vr20, vr21, vr22, vr23, vr24, vr25, vr26, vr27, vr28, vr29, vr30, vr31, vr32, vr33, vr34, opS, fpS, okP, pack, nAl, allocA, shId, leaves, fillA, fillR, splice, Nat.reduceLT, Nat.reduceEqDiff, Nat.reduceLeDiff, Nat.reduceAdd, Nat.reduceSub, Nat.reduceMul, Int.reduceBEq, Int.reduceBNe, Int.reduceLT, Int.reduceLE, Int.reduceEq, reduceIte, reduceCtorEq, da, int, boolA, h9, h10]
theorem s142 (n : NodeM) (h1 : n.items.length ≤ 1000) (h2 : n.kids.length ≤ 1000) (H : Heap) : callL ft (.fn (.func 142) [] []) [.agg (nodeC n)] H = some (encKs (keysM n), H) := by
  refine call_p (as' := [.agg (nodeC n)]) rfl rfl (by simp) ?_
  unfold c142 r142
  simp only [↓vp, vq0, vq1, vq2, vq3, vr0, vr1, vr2, vr3, vr4, vr5, vr6, vr7, vr8, vr9, vr10, vr11, vr12, vr13, vr14, vr15, vr16, vr17, vr18, vr19, vr20, vr21, vr22, vr23, vr24, vr25, vr26, vr27, vr28, vr29, vr30, vr31, vr32, vr33, vr34, opS, fpS, okP, pack, nAl, allocA, shId, leaves, fillA, fillR, splice, Nat.reduceLT, Nat.reduceEqDiff, Nat.reduceLeDiff, Nat.reduceAdd, Nat.reduceSub, Nat.reduceMul, Int.reduceBEq, Int.reduceBNe, Int.reduceLT, Int.reduceLE, Int.reduceEq, reduceIte, reduceCtorEq, da, int, boolA]
  rw [← hx_nil (hx _ _)]
  refine l142a n h1 (fun f' K S hr k0 q1 q3 => ?_) n.items.length 0 (.sc (.slice none 0 0)) _ _ (by simp) (.inl ⟨rfl, by simp⟩) ?_ ?_ ?_ ?_ ?_ ?_
  · unfold c142R3
    have o0 := get_old k0
    simp only [↓vp, vq0, vq1, vq2, vq3, vr0, vr1, vr2, vr3, vr4, vr5, vr6, vr7, vr8, vr9, vr10, vr11, vr12, vr13, vr14, vr15, vr16, vr17, vr18, vr19, vr20, vr21, vr22, vr23, vr24, vr25, vr26, vr27, vr28, vr29, vr30, vr31, vr32, vr33, vr34, opS, fpS, okP, pack, nAl, allocA, shId, leaves, fillA, fillR, splice, Nat.reduceLT, Nat.reduceEqDiff, Nat.reduceLeDiff, Nat.reduceAdd, Nat.reduceSub, Nat.reduceMul, Int.reduceBEq, Int.reduceBNe, Int.reduceLT, Int.reduceLE, Int.reduceEq, reduceIte, reduceCtorEq, da, int, boolA, q1, q3, o0]
    refine l142b n h2 (n.items.map fun x => keyC x.key) (by simpa using h1) (fun f' K S hr q3 => ?_) n.kids.length 0 S _ _ (by simp) ?_ ?_ ?_ ?_ ?_
    · unfold c142R2
      obtain ⟨K', hK'⟩ := frz_rep (L := []) (by rw [hx_nil]; exact hr) 23
      simp only [↓vp, vq0, vq1, vq2, vq3, vr0, vr1, vr2, vr3, vr4, vr5, vr6, vr7, vr8, vr9, vr10, vr11, vr12, vr13, vr14, vr15, vr16, vr17, vr18, vr19, vr20, vr21, vr22, vr23, vr24, vr25, vr26, vr27, vr28, vr29, vr30, vr31, vr32, vr33, vr34, opS, fpS, okP, pack, nAl, allocA, shId, leaves, fillA, fillR, splice, Nat.reduceLT, Nat.reduceEqDiff, Nat.reduceLeDiff, Nat.reduceAdd, Nat.reduceSub, Nat.reduceMul, Int.reduceBEq, Int.reduceBNe, Int.reduceLT, Int.reduceLE, Int.reduceEq, reduceIte, reduceCtorEq, da, int, boolA, RetP_go, resT, resC, resN, retV1, retV2, retV3, retV0, frzFZ, takeM, Option.some.injEq, q3, hK']
      simp only [encKs, keysM, List.map_append, List.map_map]
      rfl
    · rw [List.take_zero, List.drop_nil, List.map_nil, List.append_nil]
      exact hr
    all_goals simp only [↓vp, vq0, vq1, vq2, vq3, vr0, vr1, vr2, vr3, vr4, vr5, vr6, vr7, vr8, vr9, vr10, vr11, vr12, vr13, vr14, vr15, vr16, vr17, vr18, vr19, vr20, vr21, vr22, vr23, vr24, vr25, vr26, vr27, vr28, vr29, vr30, vr31, vr32, vr33, vr34, opS, fpS, okP, pack, nAl, allocA, shId, leaves, fillA, fillR, splice, Nat.reduceLT, Nat.reduceEqDiff, Nat.reduceLeDiff, Nat.reduceAdd, Nat.reduceSub, Nat.reduceMul, Int.reduceBEq, Int.reduceBNe, Int.reduceLT, Int.reduceLE, Int.reduceEq, reduceIte, reduceCtorEq, da, int, boolA, q3]
    try rfl
  all_goals first | rfl | (simp only [↓vp, vq0, vq1, vq2, vq3, vr0, vr1, vr2, vr3, vr4, vr5, vr6, vr7, vr8, vr9, vr10, vr11, vr12, vr13, vr14, vr15, vr16, vr17, vr18, vr19, vr20, vr21, vr22, vr23, vr24, vr25, vr26, vr27, vr28, vr29, vr30, vr31, vr32, vr33, vr34, opS, fpS, okP, pack, nAl, allocA, shId, leaves, fillA, fillR, splice, Nat.reduceLT, Nat.reduceEqDiff, Nat.reduceLeDiff, Nat.reduceAdd, Nat.reduceSub, Nat.reduceMul, Int.reduceBEq, Int.reduceBNe, Int.reduceLT, Int.reduceLE, Int.reduceEq, reduceIte, reduceCtorEq, da, int, boolA]; done)
theorem k142 {n : NodeM} (h1 : n.items.length ≤ 1000) (h2 : n.kids.length ≤ 1000) {K : Heap} {L : List Blk} {Q : AV → Heap → Prop} :
    KW ft (.fn (.func 142) [] []) [.agg (nodeC n)] (hx K L) Q ↔ Q (encKs (keysM n)) (hx K L) := KW_of (s142 n h1 h2 _)
end Go.VI

set_option linter.unusedVariables false
set_option linter.unusedSimpArgs false
set_option maxRecDepth 100000
namespace Go.VI
attribute [local congr] AW_congr OW_congr DW_congr NW_congr VW_congr GW_congr PW_congr KW_congr ite_congr' GV_congr CV_congr
def risL : List Bytes → Bool
  | a :: b :: r => decide (cmpB a b < 0) && risL (b :: r)
  | _ => true
theorem lenKs {H : Heap} (l : List Bytes) : lenV H 0 (encKs l) = some (.sc (.int .i64 (l.length : Int)), H) := by simp [lenV, lenOfA, encKs]
theorem atKs {H : Heap} {l : List Bytes} {i : Nat} (h : i < l.length) : iaddrA H none 1 (encKs l) (i : Int) = some (.pim (l.map keyC) i 0) := iaddr_map h (fun _ => rfl)
theorem cKs {H : Heap} {l : List Bytes} {i off n : Nat} (h : i < l.length) : cellsAt H (.pim (l.map keyC) i off) n = if off + n ≤ 1 then some (((keyC l[i]).drop off).take n) else none := cells_map h
theorem risL_step {l : List Bytes} {i : Nat} (h : i + 1 < l.length) : risL (l.drop i) = (decide (cmpB l[i] l[i + 1] < 0) && risL (l.drop (i + 1))) := by
  rw [List.drop_eq_getElem_cons (show i < l.length by omega), List.drop_eq_getElem_cons h, risL]
theorem risL_end {l : List Bytes} {i : Nat} (h : l.length ≤ i + 1) : risL (l.drop i) = true := by
  have : (l.drop i).length ≤ 1 := by simp; omega
  match hd : l.drop i, this with
  | [], _ => rfl
  | [_], _ => rfl
theorem l141 (l : List Bytes) (hl : l.length ≤ 1000000) (hb : ∀ b ∈ l, okB b) {Q : AExit → Env → Heap → Prop}
   (hex : ∀ f', risL l = true → Q (.exit 0) (mkE 21 f') (hx Heap.empty [])) (hret : ∀ f', risL l = false → f' 2 = boolA false → Q .ret (mkE 21 f') (hx Heap.empty [])) :
   ∀ (d i : Nat) (f : Nat → AV), i + d = l.length → risL l = risL (l.drop i) → f 0 = encKs l → f 3 = int (i + 1 : Nat) →
    AW ft (.loop c141L0) (mkE 21 f) (hx Heap.empty []) Q := by
  intro d
  induction d with
  | zero =>
    intro i f hd hc h0 h3
    have g : (((i + 1 : Nat) : Int) < l.length) = False := eq_false (by omega)
    rw [AW_loop]
    unfold c141L0
    simp only [↓vp, vq0, vq1, vq2, vq3, vr0, vr1, vr2, vr3, vr4, vr5, vr6, vr7, vr8, vr9, vr10, vr11, vr12, vr13, vr14, vr15, vr16, vr17, vr18, vr19, vr20, vr21, vr22, vr23, vr24, vr25, vr26, vr27, vr28, vr29, vr30, vr31, vr32, vr33, vr34, opS, fpS, okP, pack, nAl, allocA, shId, leaves, fillA, fillR, splice, Nat.reduceLT, Nat.reduceEqDiff, Nat.reduceLeDiff, Nat.reduceAdd, Nat.reduceSub, Nat.reduceMul, Int.reduceBEq, Int.reduceBNe, Int.reduceLT, Int.reduceLE, Int.reduceEq, reduceIte, reduceCtorEq, da, int, boolA, h0, h3, lenKs, g]
    exact hex _ (by rw [hc]; exact risL_end (by omega))
  | succ d ih =>
    intro i f hd hc h0 h3
    rw [AW_loop]
    unfold c141L0
    by_cases g : i + 1 < l.length
    · have g1 : (((i + 1 : Nat) : Int) < l.length) = True := eq_true (by omega)
      have gi : i < l.length := by omega
      have w1 := wrap_pred (show i < 9223372036854775807 by omega)
      have w2 := wrap_succ (show i + 1 < 9223372036854775807 by omega)
      have o1 := hb _ (List.getElem_mem gi)
      have o2 := hb _ (List.getElem_mem g)
      rw [risL_step g] at hc
      by_cases c1 : cmpB l[i] l[i + 1] < 0
      · have c2 : (cmpB l[i] l[i + 1] ≥ 0) = False := eq_false (by omega)
        simp only [↓vp, vq0, vq1, vq2, vq3, vr0, vr1, vr2, vr3, vr4, vr5, vr6, vr7, vr8, vr9, vr10, vr11, vr12, vr13, vr14, vr15, vr16, vr17, vr18, vr19, vr20, vr21, vr22, vr23, vr24, vr25, vr26, vr27, vr28, vr29, vr30, vr31, vr32, vr33, vr34, opS, fpS, okP, pack, nAl, allocA, shId, leaves, fillA, fillR, splice, Nat.reduceLT, Nat.reduceEqDiff, Nat.reduceLeDiff, Nat.reduceAdd, Nat.reduceSub, Nat.reduceMul, Int.reduceBEq, Int.reduceBNe, Int.reduceLT, Int.reduceLE, Int.reduceEq, reduceIte, reduceCtorEq, da, int, boolA, h0, h3, lenKs, g1, atKs gi, cKs gi, atKs g, cKs g, keyC, k136, o1, o2, w1, w2, c2]
        refine ih (i + 1) _ (by omega) (by rw [hc]; simp [c1]) ?_ ?_ <;> simp only [↓vp, vq0, vq1, vq2, vq3, vr0, vr1, vr2, vr3, vr4, vr5, vr6, vr7, vr8, vr9, vr10, vr11, vr12, vr13, vr14, vr15, vr16, vr17, vr18, vr19, vr20, vr21, vr22, vr23, vr24, vr25, vr26, vr27, vr28, vr29, vr30, vr31, vr32, vr33, vr34, opS, fpS, okP, pack, nAl, allocA, shId, leaves, fillA, fillR, splice, Nat.reduceLT, Nat.reduceEqDiff, Nat.reduceLeDiff, Nat.reduceAdd, Nat.reduceSub, Nat.reduceMul, Int.reduceBEq, Int.reduceBNe, Int.reduceLT, Int.reduceLE, Int.reduceEq, reduceIte, reduceCtorEq, da, int, boolA, h0]
      · have c2 : (cmpB l[i] l[i + 1] ≥ 0) = True := eq_true (by omega)
        simp only [↓vp, vq0, vq1, vq2, vq3, vr0, vr1, vr2, vr3, vr4, vr5, vr6, vr7, vr8, vr9, vr10, vr11, vr12, vr13, vr14, vr15, vr16, vr17, vr18, vr19, vr20, vr21, vr22, vr23, vr24, vr25, vr26, vr27, vr28, vr29, vr30, vr31, vr32, vr33, vr34, opS, fpS, okP, pack, nAl, allocA, shId, leaves, fillA, fillR, splice, Nat.reduceLT, Nat.reduceEqDiff, Nat.reduceLeDiff, Nat.reduceAdd, Nat.reduceSub, Nat.reduceMul, Int.reduceBEq, Int.reduceBNe, Int.reduceLT, Int.reduceLE, Int.reduceEq, reduceIte, reduceCtorEq, da, int, boolA, h0, h3, lenKs, g1, atKs gi, cKs gi, atKs g, cKs g, keyC, k136, o1, o2, w1, w2, c2]
        refine hret _ (by rw [hc]; simp [c1]) ?_
        simp only [↓vp, vq0, vq1, vq2, vq3, vr0, vr1, vr2, vr3, vr4, vr5, vr6, vr7, vr8, vr9, vr10, vr11, vr12, vr13, vr14, vr15, vr16, vr17, vr18, vr19, vr20, vr21, vr22, vr23, vr24, vr25, vr26, vr27, vr28, vr29, vr30, vr31, vr32, vr33, vr34, opS, fpS, okP, pack, nAl, allocA, shId, leaves, fillA, fillR, splice, Nat.reduceLT, Nat.reduceEqDiff, Nat.reduceLeDiff, Nat.reduceAdd, Nat.reduceSub, Nat.reduceMul, Int.reduceBEq, Int.reduceBNe, Int.reduceLT, Int.reduceLE, Int.reduceEq, reduceIte, reduceCtorEq, da, int, boolA]
    · have g1 : (((i + 1 : Nat) : Int) < l.length) = False := eq_false (by omega)
      simp only [↓vp, vq0, vq1, vq2, vq3, vr0, vr1, vr2, vr3, vr4, vr5, vr6, vr7, vr8, vr9, vr10, vr11, vr12, vr13, vr14, vr15, vr16, vr17, vr18, vr19, vr20, vr21, vr22, vr23, vr24, vr25, vr26, vr27, vr28, vr29, vr30, vr31, vr32, vr33, vr34, opS, fpS, okP, pack, nAl, allocA, shId, leaves, fillA, fillR, splice, Nat.reduceLT, Nat.reduceEqDiff, Nat.reduceLeDiff, Nat.reduceAdd, Nat.reduceSub, Nat.reduceMul, Int.reduceBEq, Int.reduceBNe, Int.reduceLT, Int.reduceLE, Int.reduceEq, reduceIte, reduceCtorEq, da, int, boolA, h0, h3, lenKs, g1]
      exact hex _ (by rw [hc]; exact risL_end (by omega))
theorem s141 (l : List Bytes) (hl : l.length ≤ 1000000) (hb : ∀ b ∈ l, okB b) (H : Heap) : callL ft (.fn (.func 141) [] []) [encKs l] H = some (boolA (risL l), H) := by
  refine call_p (as' := [encKs l]) rfl rfl (by simp) ?_
  unfold c141 r141
  simp only [↓vp, vq0, vq1, vq2, vq3, vr0, vr1, vr2, vr3, vr4, vr5, vr6, vr7, vr8, vr9, vr10, vr11, vr12, vr13, vr14, vr15, vr16, vr17, vr18, vr19, vr20, vr21, vr22, vr23, vr24, vr25, vr26, vr27, vr28, vr29, vr30, vr31, vr32, vr33, vr34, opS, fpS, okP, pack, nAl, allocA, shId, leaves, fillA, fillR, splice, Nat.reduceLT, Nat.reduceEqDiff, Nat.reduceLeDiff, Nat.reduceAdd, Nat.reduceSub, Nat.reduceMul, Int.reduceBEq, Int.reduceBNe, Int.reduceLT, Int.reduceLE, Int.reduceEq, reduceIte, reduceCtorEq, da, int, boolA]
  refine l141 l hl hb (fun f' hr => ?_) (fun f' hr h2 => ?_) l.length 0 _ (by simp) rfl ?_ ?_
  · unfold c141R1
    simp only [↓vp, vq0, vq1, vq2, vq3, vr0, vr1, vr2, vr3, vr4, vr5, vr6, vr7, vr8, vr9, vr10, vr11, vr12, vr13, vr14, vr15, vr16, vr17, vr18, vr19, vr20, vr21, vr22, vr23, vr24, vr25, vr26, vr27, vr28, vr29, vr30, vr31, vr32, vr33, vr34, opS, fpS, okP, pack, nAl, allocA, shId, leaves, fillA, fillR, splice, Nat.reduceLT, Nat.reduceEqDiff, Nat.reduceLeDiff, Nat.reduceAdd, Nat.reduceSub, Nat.reduceMul, Int.reduceBEq, Int.reduceBNe, Int.reduceLT, Int.reduceLE, Int.reduceEq, reduceIte, reduceCtorEq, da, int, boolA, RetP_go, resT, resC, resN, retV1, retV2, retV3, retV0, frzFZ, takeM, Option.some.injEq, hr]
  · simp only [↓vp, vq0, vq1, vq2, vq3, vr0, vr1, vr2, vr3, vr4, vr5, vr6, vr7, vr8, vr9, vr10, vr11, vr12, vr13, vr14, vr15, vr16, vr17, vr18, vr19, vr20, vr21, vr22, vr23, vr24, vr25, vr26, vr27, vr28, vr29, vr30, vr31, vr32, vr33, vr34, opS, fpS, okP, pack, nAl, allocA, shId, leaves, fillA, fillR, splice, Nat.reduceLT, Nat.reduceEqDiff, Nat.reduceLeDiff, Nat.reduceAdd, Nat.reduceSub, Nat.reduceMul, Int.reduceBEq, Int.reduceBNe, Int.reduceLT, Int.reduceLE, Int.reduceEq, reduceIte, reduceCtorEq, da, int, boolA, RetP_go, resT, resC, resN, retV1, retV2, retV3, retV0, frzFZ, takeM, Option.some.injEq, hr, h2]
  all_goals first | rfl | (simp only [↓vp, vq0, vq1, vq2, vq3, vr0, vr1, vr2, vr3, vr4, vr5, vr6, vr7, vr8, vr9, vr10, vr11, vr12, vr13, vr14, vr15, vr16, vr17, vr18, vr19, vr20, vr21, vr22, vr23, vr24, vr25, vr26, vr27, vr28, vr29, vr30, vr31, vr32, vr33, vr34, opS, fpS, okP, pack, nAl, allocA, shId, leaves, fillA, fillR, splice, Nat.reduceLT, Nat.reduceEqDiff, Nat.reduceLeDiff, Nat.reduceAdd, Nat.reduceSub, Nat.reduceMul, Int.reduceBEq, Int.reduceBNe, Int.reduceLT, Int.reduceLE, Int.reduceEq, reduceIte, reduceCtorEq, da, int, boolA]; done)
theorem k141 {l : List Bytes} (hl : l.length ≤ 1000000) (hb : ∀ b ∈ l, okB b) {K : Heap} {L : List Blk} {Q : AV → Heap → Prop} : KW ft (.fn (.func 141) [] []) [encKs l] (hx K L) Q ↔ Q (boolA (risL l)) (hx K L) := KW_of (s141 l hl hb _)
end Go.VI

set_option linter.unusedVariables false
set_option linter.unusedSimpArgs false
set_option maxRecDepth 100000
namespace Go.VI
attribute [local congr] AW_congr OW_congr DW_congr NW_congr VW_congr GW_congr PW_congr KW_congr ite_congr' GV_congr CV_congr
def lowM (g : Int) (n : NodeM) : Bool := decide (3 * roomM g n < capG g)
theorem room_bound (g : Int) {n : NodeM} (hn : okN n) (h1 : n.items.length ≤ 1000) (h2 : n.kids.length ≤ 1000) : 0 ≤ roomM g n ∧ roomM g n ≤ 1000000000000000000 := by
  have := sumZ_small (rooms_small g hn)
  have h3 := rooms_len g h1 h2
  unfold roomM
  omega
theorem s81 (g : Int) (n : NodeM) (hn : okN n) (h1 : n.items.length ≤ 1000) (h2 : n.kids.length ≤ 1000) (H : Heap) : callL ft (.fn (.func 81) [] []) [int g, .agg (nodeC n)] H = some (boolA (lowM g n), H) := by
  refine call_p (as' := [int g, .agg (nodeC n)]) rfl rfl (by simp) ?_
  unfold c81 r81
  have kk := fun K L Q => @k80 g n hn h1 h2 K L Q
  have k2 := fun g K L Q => @k90 g K L Q
  have hb := room_bound g hn h1 h2
  have w1 : IntKind.i64.wrap (3 * roomM g n) = 3 * roomM g n := wrap_i64 (by omega)
  simp only [int] at kk k2
  simp only [↓vp, vq0, vq1, vq2, vq3, vr0, vr1, vr2, vr3, vr4, vr5, vr6, vr7, vr8, vr9, vr10, vr11, vr12, vr13, vr14, vr15, vr16, vr17, vr18, vr19, vr20, vr21, vr22, vr23, vr24, vr25, vr26, vr27, vr28, vr29, vr30, vr31, vr32, vr33, vr34, opS, fpS, okP, pack, nAl, allocA, shId, leaves, fillA, fillR, splice, Nat.reduceLT, Nat.reduceEqDiff, Nat.reduceLeDiff, Nat.reduceAdd, Nat.reduceSub, Nat.reduceMul, Int.reduceBEq, Int.reduceBNe, Int.reduceLT, Int.reduceLE, Int.reduceEq, reduceIte, reduceCtorEq, da, int, boolA, RetP_go, resT, resC, resN, retV1, retV2, retV3, retV0, frzFZ, takeM, Option.some.injEq, kk, k2, w1]
  rfl
theorem kcloB {l : Bytes} (h : l.length ≤ 1000000) {K : Heap} {L : List Blk} {Q : AV → Heap → Prop} : KW ft (.fn (.func 92) [] []) [encB l] (hx K L) Q ↔ Q (encB l) (hx K L) := by
  refine KW_of (call_pprim (as' := [encB l]) (p := cloF 1 1) rfl rfl ?_)
  cases l with
  | nil => rfl
  | cons x xs =>
    have h1 : ((xs.map byteC).length + 1) * 1 ≤ 140737488355328 ∧ allSz 1 ((x :: xs).map byteC) = true := ⟨by simp at h ⊢; omega, by simp [allSz, byteC]⟩
    show (if ((xs.map byteC).length + 1) * 1 ≤ 140737488355328 ∧ allSz 1 ((x :: xs).map byteC) = true then some (encB (x :: xs)) else none) = _
    rw [if_pos h1]
theorem s75 (k v : Bytes) (h1 : k.length ≤ 1000000) (h2 : v.length ≤ 1000000) (H : Heap) : callL ft (.fn (.func 75) [] []) [encB k, encB v] H = some (.agg (itemC ⟨k, v, 0, 0⟩), H) := by
  refine call_p (as' := [encB k, encB v]) rfl rfl (by simp) ?_
  unfold c75 r75
  have k1 := fun K L Q => @kcloB k h1 K L Q
  have k2 := fun K L Q => @kcloB v h2 K L Q
  simp only [↓vp, vq0, vq1, vq2, vq3, vr0, vr1, vr2, vr3, vr4, vr5, vr6, vr7, vr8, vr9, vr10, vr11, vr12, vr13, vr14, vr15, vr16, vr17, vr18, vr19, vr20, vr21, vr22, vr23, vr24, vr25, vr26, vr27, vr28, vr29, vr30, vr31, vr32, vr33, vr34, opS, fpS, okP, pack, nAl, allocA, shId, leaves, fillA, fillR, splice, Nat.reduceLT, Nat.reduceEqDiff, Nat.reduceLeDiff, Nat.reduceAdd, Nat.reduceSub, Nat.reduceMul, Int.reduceBEq, Int.reduceBNe, Int.reduceLT, Int.reduceLE, Int.reduceEq, reduceIte, reduceCtorEq, da, int, boolA, RetP_go, resT, resC, resN, retV1, retV2, retV3, retV0, frzFZ, takeM, Option.some.injEq, k1, k2]
  rfl
def wrongF (g : Int) : AV := .fn (.func 171) [] [.pim [[int g]] 0 0]
theorem s171 (g : Int) (x : ItemM) (H : Heap) : callL ft (wrongF g) [.agg (itemC x)] H = some (boolA (!rightP g x), H) := by
  refine call_p (as' := [.agg (itemC x), .pim [[int g]] 0 0]) rfl rfl (by simp) ?_
  unfold c171 r171
  have kk := fun K L Q => @k172 g x K L Q
  simp only [int] at kk
  have cp : ∀ H, cellsAt H (.pim [[.sc (.int .i64 g)]] 0 0) 1 = some [.sc (.int .i64 g)] := fun _ => rfl
  cases e : rightP g x with
  | true => simp only [↓vp, vq0, vq1, vq2, vq3, vr0, vr1, vr2, vr3, vr4, vr5, vr6, vr7, vr8, vr9, vr10, vr11, vr12, vr13, vr14, vr15, vr16, vr17, vr18, vr19, vr20, vr21, vr22, vr23, vr24, vr25, vr26, vr27, vr28, vr29, vr30, vr31, vr32, vr33, vr34, opS, fpS, okP, pack, nAl, allocA, shId, leaves, fillA, fillR, splice, Nat.reduceLT, Nat.reduceEqDiff, Nat.reduceLeDiff, Nat.reduceAdd, Nat.reduceSub, Nat.reduceMul, Int.reduceBEq, Int.reduceBNe, Int.reduceLT, Int.reduceLE, Int.reduceEq, reduceIte, reduceCtorEq, da, int, boolA, RetP_go, resT, resC, resN, retV1, retV2, retV3, retV0, frzFZ, takeM, Option.some.injEq, kk, cp, e]
  | false => simp only [↓vp, vq0, vq1, vq2, vq3, vr0, vr1, vr2, vr3, vr4, vr5, vr6, vr7, vr8, vr9, vr10, vr11, vr12, vr13, vr14, vr15, vr16, vr17, vr18, vr19, vr20, vr21, vr22, vr23, vr24, vr25, vr26, vr27, vr28, vr29, vr30, vr31, vr32, vr33, vr34, opS, fpS, okP, pack, nAl, allocA, shId, leaves, fillA, fillR, splice, Nat.reduceLT, Nat.reduceEqDiff, Nat.reduceLeDiff, Nat.reduceAdd, Nat.reduceSub, Nat.reduceMul, Int.reduceBEq, Int.reduceBNe, Int.reduceLT, Int.reduceLE, Int.reduceEq, reduceIte, reduceCtorEq, da, int, boolA, RetP_go, resT, resC, resN, retV1, retV2, retV3, retV0, frzFZ, takeM, Option.some.injEq, kk, cp, e]
theorem kwrong {g : Int} {x : ItemM} {K : Heap} {L : List Blk} {Q : AV → Heap → Prop} : KW ft (wrongF g) [.agg (itemC x)] (hx K L) Q ↔ Q (boolA (!rightP g x)) (hx K L) := KW_of (s171 g x _)
/-- The first item that may not be. -/
def badI (g : Int) : Nat → List ItemM → Int
  | _, [] => -1
  | i, x :: r => if rightP g x then badI g (i + 1) r else i
theorem l187 (g : Int) (l : List ItemM) (hl : okI l) {Q : AExit → Env → Heap → Prop}
   (hex : ∀ f', badI g 0 l = -1 → Q (.exit 0) (mkE 19 f') (hx Heap.empty [])) (hret : ∀ f', f' 4 = int (badI g 0 l) → Q .ret (mkE 19 f') (hx Heap.empty [])) :
   ∀ (d i : Nat) (f : Nat → AV), i + d = l.length → badI g 0 l = badI g i (l.drop i) → f 0 = encI l → f 1 = wrongF g → f 7 = int l.length → f 8 = int i →
    AW ft (.loop c187L0) (mkE 19 f) (hx Heap.empty []) Q := by
  intro d
  have hi := hl.n
  unfold MX at hi
  induction d with
  | zero =>
    intro i f hd hc h0 h1 h7 h8
    have g1 : ((i : Int) < l.length) = False := by simp; omega
    rw [AW_loop]
    unfold c187L0
    rw [List.drop_eq_nil_of_le (by omega)] at hc
    simp only [↓vp, vq0, vq1, vq2, vq3, vr0, vr1, vr2, vr3, vr4, vr5, vr6, vr7, vr8, vr9, vr10, vr11, vr12, vr13, vr14, vr15, vr16, vr17, vr18, vr19, vr20, vr21, vr22, vr23, vr24, vr25, vr26, vr27, vr28, vr29, vr30, vr31, vr32, vr33, vr34, opS, fpS, okP, pack, nAl, allocA, shId, leaves, fillA, fillR, splice, Nat.reduceLT, Nat.reduceEqDiff, Nat.reduceLeDiff, Nat.reduceAdd, Nat.reduceSub, Nat.reduceMul, Int.reduceBEq, Int.reduceBNe, Int.reduceLT, Int.reduceLE, Int.reduceEq, reduceIte, reduceCtorEq, da, int, boolA, h7, h8, g1]
    exact hex _ (by rw [hc]; rfl)
  | succ d ih =>
    intro i f hd hc h0 h1 h7 h8
    have g1 : ((i : Int) < l.length) = True := by simp; omega
    have gi : i < l.length := by omega
    have w1 := wrap_succ (show i < 9223372036854775807 by omega)
    have kk := fun K L Q => @kwrong g l[i] K L Q
    rw [AW_loop]
    unfold c187L0
    rw [List.drop_eq_getElem_cons gi, badI] at hc
    cases e : rightP g l[i] with
    | true =>
      rw [e, if_pos rfl] at hc
      simp only [↓vp, vq0, vq1, vq2, vq3, vr0, vr1, vr2, vr3, vr4, vr5, vr6, vr7, vr8, vr9, vr10, vr11, vr12, vr13, vr14, vr15, vr16, vr17, vr18, vr19, vr20, vr21, vr22, vr23, vr24, vr25, vr26, vr27, vr28, vr29, vr30, vr31, vr32, vr33, vr34, opS, fpS, okP, pack, nAl, allocA, shId, leaves, fillA, fillR, splice, Nat.reduceLT, Nat.reduceEqDiff, Nat.reduceLeDiff, Nat.reduceAdd, Nat.reduceSub, Nat.reduceMul, Int.reduceBEq, Int.reduceBNe, Int.reduceLT, Int.reduceLE, Int.reduceEq, reduceIte, reduceCtorEq, da, int, boolA, h0, h1, h7, h8, g1, atI gi, cI gi, kk, e, w1]
      refine ih (i + 1) _ (by omega) hc ?_ ?_ ?_ ?_ <;> simp only [↓vp, vq0, vq1, vq2, vq3, vr0, vr1, vr2, vr3, vr4, vr5, vr6, vr7, vr8, vr9, vr10, vr11, vr12, vr13, vr14, vr15, vr16, vr17, vr18, vr19, vr20, vr21, vr22, vr23, vr24, vr25, vr26, vr27, vr28, vr29, vr30, vr31, vr32, vr33, vr34, opS, fpS, okP, pack, nAl, allocA, shId, leaves, fillA, fillR, splice, Nat.reduceLT, Nat.reduceEqDiff, Nat.reduceLeDiff, Nat.reduceAdd, Nat.reduceSub, Nat.reduceMul, Int.reduceBEq, Int.reduceBNe, Int.reduceLT, Int.reduceLE, Int.reduceEq, reduceIte, reduceCtorEq, da, int, boolA, h0, h1, h7]
    | false =>
      rw [e, if_neg (by simp)] at hc
      simp only [↓vp, vq0, vq1, vq2, vq3, vr0, vr1, vr2, vr3, vr4, vr5, vr6, vr7, vr8, vr9, vr10, vr11, vr12, vr13, vr14, vr15, vr16, vr17, vr18, vr19, vr20, vr21, vr22, vr23, vr24, vr25, vr26, vr27, vr28, vr29, vr30, vr31, vr32, vr33, vr34, opS, fpS, okP, pack, nAl, allocA, shId, leaves, fillA, fillR, splice, Nat.reduceLT, Nat.reduceEqDiff, Nat.reduceLeDiff, Nat.reduceAdd, Nat.reduceSub, Nat.reduceMul, Int.reduceBEq, Int.reduceBNe, Int.reduceLT, Int.reduceLE, Int.reduceEq, reduceIte, reduceCtorEq, da, int, boolA, h0, h1, h7, h8, g1, atI gi, cI gi, kk, e, w1]
      refine hret _ ?_
      simp only [↓vp, vq0, vq1, vq2, vq3, vr0, vr1, vr2, vr3, vr4, vr5, vr6, vr7, vr8, vr9, vr10, vr11, vr12, vr13, vr14, vr15, vr16, vr17, vr18, vr19, vr20, vr21, vr22, vr23, vr24, vr25, vr26, vr27, vr28, vr29, vr30, vr31, vr32, vr33, vr34, opS, fpS, okP, pack, nAl, allocA, shId, leaves, fillA, fillR, splice, Nat.reduceLT, Nat.reduceEqDiff, Nat.reduceLeDiff, Nat.reduceAdd, Nat.reduceSub, Nat.reduceMul, Int.reduceBEq, Int.reduceBNe, Int.reduceLT, Int.reduceLE, Int.reduceEq, reduceIte, reduceCtorEq, da, int, boolA, hc]
theorem badI_ok (g : Int) : ∀ (l : List ItemM) (i : Nat), decide (0 ≤ badI g i l) = !l.all (rightP g)
  | [], i => by simp [badI]
  | x :: r, i => by
    unfold badI
    cases e : rightP g x with
    | true => simp [e, badI_ok g r (i + 1)]
    | false => simp [e]
theorem s187 (g : Int) (l : List ItemM) (hl : okI l) (H : Heap) : callL ft (.fn (.func 187) [] []) [encI l, wrongF g] H = some (int (badI g 0 l), H) := by
  refine call_p (as' := [encI l, wrongF g]) rfl rfl (by simp) ?_
  unfold c187 r187
  simp only [↓vp, vq0, vq1, vq2, vq3, vr0, vr1, vr2, vr3, vr4, vr5, vr6, vr7, vr8, vr9, vr10, vr11, vr12, vr13, vr14, vr15, vr16, vr17, vr18, vr19, vr20, vr21, vr22, vr23, vr24, vr25, vr26, vr27, vr28, vr29, vr30, vr31, vr32, vr33, vr34, opS, fpS, okP, pack, nAl, allocA, shId, leaves, fillA, fillR, splice, Nat.reduceLT, Nat.reduceEqDiff, Nat.reduceLeDiff, Nat.reduceAdd, Nat.reduceSub, Nat.reduceMul, Int.reduceBEq, Int.reduceBNe, Int.reduceLT, Int.reduceLE, Int.reduceEq, reduceIte, reduceCtorEq, da, int, boolA]
  refine l187 g l hl (fun f' hm => ?_) (fun f' h4 => ?_) l.length 0 _ (by simp) rfl ?_ ?_ ?_ ?_
  · unfold c187R1
    simp only [↓vp, vq0, vq1, vq2, vq3, vr0, vr1, vr2, vr3, vr4, vr5, vr6, vr7, vr8, vr9, vr10, vr11, vr12, vr13, vr14, vr15, vr16, vr17, vr18, vr19, vr20, vr21, vr22, vr23, vr24, vr25, vr26, vr27, vr28, vr29, vr30, vr31, vr32, vr33, vr34, opS, fpS, okP, pack, nAl, allocA, shId, leaves, fillA, fillR, splice, Nat.reduceLT, Nat.reduceEqDiff, Nat.reduceLeDiff, Nat.reduceAdd, Nat.reduceSub, Nat.reduceMul, Int.reduceBEq, Int.reduceBNe, Int.reduceLT, Int.reduceLE, Int.reduceEq, reduceIte, reduceCtorEq, da, int, boolA, RetP_go, resT, resC, resN, retV1, retV2, retV3, retV0, frzFZ, takeM, Option.some.injEq, hm]
  · simp only [↓vp, vq0, vq1, vq2, vq3, vr0, vr1, vr2, vr3, vr4, vr5, vr6, vr7, vr8, vr9, vr10, vr11, vr12, vr13, vr14, vr15, vr16, vr17, vr18, vr19, vr20, vr21, vr22, vr23, vr24, vr25, vr26, vr27, vr28, vr29, vr30, vr31, vr32, vr33, vr34, opS, fpS, okP, pack, nAl, allocA, shId, leaves, fillA, fillR, splice, Nat.reduceLT, Nat.reduceEqDiff, Nat.reduceLeDiff, Nat.reduceAdd, Nat.reduceSub, Nat.reduceMul, Int.reduceBEq, Int.reduceBNe, Int.reduceLT, Int.reduceLE, Int.reduceEq, reduceIte, reduceCtorEq, da, int, boolA, RetP_go, resT, resC, resN, retV1, retV2, retV3, retV0, frzFZ, takeM, Option.some.injEq, h4]
  all_goals first | rfl | (simp only [↓vp, vq0, vq1, vq2, vq3, vr0, vr1, vr2, vr3, vr4, vr5, vr6, vr7, vr8, vr9, vr10, vr11, vr12, vr13, vr14, vr15, vr16, vr17, vr18, vr19, vr20, vr21, vr22, vr23, vr24, vr25, vr26, vr27, vr28, vr29, vr30, vr31, vr32, vr33, vr34, opS, fpS, okP, pack, nAl, allocA, shId, leaves, fillA, fillR, splice, Nat.reduceLT, Nat.reduceEqDiff, Nat.reduceLeDiff, Nat.reduceAdd, Nat.reduceSub, Nat.reduceMul, Int.reduceBEq, Int.reduceBNe, Int.reduceLT, Int.reduceLE, Int.reduceEq, reduceIte, reduceCtorEq, da, int, boolA]; done)
theorem k187 {g : Int} {l : List ItemM} (hl : okI l) {K : Heap} {L : List Blk} {Q : AV → Heap → Prop} : KW ft (.fn (.func 187) [] []) [encI l, wrongF g] (hx K L) Q ↔ Q (int (badI g 0 l)) (hx K L) := KW_of (s187 g l hl _)
theorem s173 (g : Int) (l : List ItemM) (hl : okI l) {args : List AV} {H H1 : Heap} (hfz : frzCells H args = some ([encI l, wrongF g], H1)) : callL ft (.fn (.func 173) [] []) args H = some (boolA (!l.all (rightP g)), H1) := by
  refine call_p (as' := [encI l, wrongF g]) rfl (by simpa using hfz) (by simp) ?_
  unfold c173 r173
  have kk := fun K L Q => @k187 g l hl K L Q
  simp only [int] at kk
  rw [← badI_ok g l 0]
  simp only [↓vp, vq0, vq1, vq2, vq3, vr0, vr1, vr2, vr3, vr4, vr5, vr6, vr7, vr8, vr9, vr10, vr11, vr12, vr13, vr14, vr15, vr16, vr17, vr18, vr19, vr20, vr21, vr22, vr23, vr24, vr25, vr26, vr27, vr28, vr29, vr30, vr31, vr32, vr33, vr34, opS, fpS, okP, pack, nAl, allocA, shId, leaves, fillA, fillR, splice, Nat.reduceLT, Nat.reduceEqDiff, Nat.reduceLeDiff, Nat.reduceAdd, Nat.reduceSub, Nat.reduceMul, Int.reduceBEq, Int.reduceBNe, Int.reduceLT, Int.reduceLE, Int.reduceEq, reduceIte, reduceCtorEq, da, int, boolA, RetP_go, resT, resC, resN, retV1, retV2, retV3, retV0, frzFZ, takeM, Option.some.injEq, kk, ge_iff_le]
theorem s139 (g : Int) (n : NodeM) (hn : okN n) (H : Heap) : callL ft (.fn (.func 139) [] []) [.agg (nodeC n), int g] H = some (boolA (n.kids.length == 0 && n.items.all (rightP g)), H) := by
  refine call_p (as' := [.agg (nodeC n), int g]) rfl rfl (by simp) ?_
  unfold c139 r139
  cases e : n.kids.length == 0 with
  | false =>
    have e' : ((n.kids.length : Int) == 0) = false := by
      have h0 : n.kids.length ≠ 0 := by simpa using e
      exact beq_eq_false_iff_ne.2 (by omega)
    simp only [↓vp, vq0, vq1, vq2, vq3, vr0, vr1, vr2, vr3, vr4, vr5, vr6, vr7, vr8, vr9, vr10, vr11, vr12, vr13, vr14, vr15, vr16, vr17, vr18, vr19, vr20, vr21, vr22, vr23, vr24, vr25, vr26, vr27, vr28, vr29, vr30, vr31, vr32, vr33, vr34, opS, fpS, okP, pack, nAl, allocA, shId, leaves, fillA, fillR, splice, Nat.reduceLT, Nat.reduceEqDiff, Nat.reduceLeDiff, Nat.reduceAdd, Nat.reduceSub, Nat.reduceMul, Int.reduceBEq, Int.reduceBNe, Int.reduceLT, Int.reduceLE, Int.reduceEq, reduceIte, reduceCtorEq, da, int, boolA, RetP_go, resT, resC, resN, retV1, retV2, retV3, retV0, frzFZ, takeM, Option.some.injEq, e', Bool.false_and]
  | true =>
    have e' : ((n.kids.length : Int) == 0) = true := by
      have h0 : n.kids.length = 0 := by simpa using e
      exact beq_iff_eq.2 (by omega)
    simp only [↓vp, vq0, vq1, vq2, vq3, vr0, vr1, vr2, vr3, vr4, vr5, vr6, vr7, vr8, vr9, vr10, vr11, vr12, vr13, vr14, vr15, vr16, vr17, vr18, vr19, vr20, vr21, vr22, vr23, vr24, vr25, vr26, vr27, vr28, vr29, vr30, vr31, vr32, vr33, vr34, opS, fpS, okP, pack, nAl, allocA, shId, leaves, fillA, fillR, splice, Nat.reduceLT, Nat.reduceEqDiff, Nat.reduceLeDiff, Nat.reduceAdd, Nat.reduceSub, Nat.reduceMul, Int.reduceBEq, Int.reduceBNe, Int.reduceLT, Int.reduceLE, Int.reduceEq, reduceIte, reduceCtorEq, da, int, boolA, e']
    refine (KW_of (s173 g n.items hn.i (H1 := hx Heap.empty [.box false (nodeC n), .box true [int g]]) rfl)).2 ?_
    cases e2 : n.items.all (rightP g) with
    | true => simp only [↓vp, vq0, vq1, vq2, vq3, vr0, vr1, vr2, vr3, vr4, vr5, vr6, vr7, vr8, vr9, vr10, vr11, vr12, vr13, vr14, vr15, vr16, vr17, vr18, vr19, vr20, vr21, vr22, vr23, vr24, vr25, vr26, vr27, vr28, vr29, vr30, vr31, vr32, vr33, vr34, opS, fpS, okP, pack, nAl, allocA, shId, leaves, fillA, fillR, splice, Nat.reduceLT, Nat.reduceEqDiff, Nat.reduceLeDiff, Nat.reduceAdd, Nat.reduceSub, Nat.reduceMul, Int.reduceBEq, Int.reduceBNe, Int.reduceLT, Int.reduceLE, Int.reduceEq, reduceIte, reduceCtorEq, da, int, boolA, RetP_go, resT, resC, resN, retV1, retV2, retV3, retV0, frzFZ, takeM, Option.some.injEq, Bool.true_and]
    | false => simp only [↓vp, vq0, vq1, vq2, vq3, vr0, vr1, vr2, vr3, vr4, vr5, vr6, vr7, vr8, vr9, vr10, vr11, vr12, vr13, vr14, vr15, vr16, vr17, vr18, vr19, vr20, vr21, vr22, vr23, vr24, vr25, vr26, vr27, vr28, vr29, vr30, vr31, vr32, vr33, vr34, opS, fpS, okP, pack, nAl, allocA, shId, leaves, fillA, fillR, splice, Nat.reduceLT, Nat.reduceEqDiff, Nat.reduceLeDiff, Nat.reduceAdd, Nat.reduceSub, Nat.reduceMul, Int.reduceBEq, Int.reduceBNe, Int.reduceLT, Int.reduceLE, Int.reduceEq, reduceIte, reduceCtorEq, da, int, boolA, RetP_go, resT, resC, resN, retV1, retV2, retV3, retV0, frzFZ, takeM, Option.some.injEq, Bool.true_and]
end Go.VI

set_option linter.unusedVariables false
set_option linter.unusedSimpArgs false
set_option maxRecDepth 100000
namespace Go.VI
attribute [local congr] AW_congr OW_congr DW_congr NW_congr VW_congr GW_congr PW_congr KW_congr ite_congr' GV_congr CV_congr
def fewI (x : ItemM) : Bool := !(decide (60 < x.key.length) || decide (500 < x.value.length))
def fewK (x : KidM) : Bool := !decide (60 < x.key.length)
def few6 (n : NodeM) : Bool := decide (n.items.length ≤ 60) && decide (n.kids.length ≤ 60) && n.items.all fewI && n.kids.all fewK
theorem l18a (n : NodeM) (hi : n.items.length ≤ 60) {Q : AExit → Env → Heap → Prop}
   (hex : ∀ f' K, n.items.all fewI = true → K.get 0 = some (.box false (nodeC n)) → f' 1 = .ptr 0 0 0 → Q (.exit 0) (mkE 47 f') (hx K []))
   (hret : ∀ f' K, n.items.all fewI = false → f' 2 = boolA false → Q .ret (mkE 47 f') (hx K [])) :
   ∀ (d i : Nat) (K : Heap) (f : Nat → AV), i + d = n.items.length → n.items.all fewI = (n.items.drop i).all fewI → K.get 0 = some (.box false (nodeC n)) → f 1 = .ptr 0 0 0 → f 18 = encI n.items → f 19 = int n.items.length → f 20 = int i →
    AW ft (.loop c18L0) (mkE 47 f) (hx K []) Q := by
  intro d
  induction d with
  | zero =>
    intro i K f hd hc k0 h1 h18 h19 h20
    have g1 : ((i : Int) < n.items.length) = False := by simp; omega
    rw [AW_loop]
    unfold c18L0
    rw [List.drop_eq_nil_of_le (by omega)] at hc
    simp only [↓vp, vq0, vq1, vq2, vq3, vr0, vr1, vr2, vr3, vr4, vr5, vr6, vr7, vr8, vr9, vr10, vr11, vr12, vr13, vr14, vr15, vr16, vr17, vr18, vr19, vr20, vr21, vr22, vr23, vr24, vr25, vr26, vr27, vr28, vr29, vr30, vr31, vr32, vr33, vr34, opS, fpS, okP, pack, nAl, allocA, shId, leaves, fillA, fillR, splice, Nat.reduceLT, Nat.reduceEqDiff, Nat.reduceLeDiff, Nat.reduceAdd, Nat.reduceSub, Nat.reduceMul, Int.reduceBEq, Int.reduceBNe, Int.reduceLT, Int.reduceLE, Int.reduceEq, reduceIte, reduceCtorEq, da, int, boolA, h19, h20, g1]
    refine hex _ K (by rw [hc]; rfl) k0 ?_
    simp only [↓vp, vq0, vq1, vq2, vq3, vr0, vr1, vr2, vr3, vr4, vr5, vr6, vr7, vr8, vr9, vr10, vr11, vr12, vr13, vr14, vr15, vr16, vr17, vr18, vr19, vr20, vr21, vr22, vr23, vr24, vr25, vr26, vr27, vr28, vr29, vr30, vr31, vr32, vr33, vr34, opS, fpS, okP, pack, nAl, allocA, shId, leaves, fillA, fillR, splice, Nat.reduceLT, Nat.reduceEqDiff, Nat.reduceLeDiff, Nat.reduceAdd, Nat.reduceSub, Nat.reduceMul, Int.reduceBEq, Int.reduceBNe, Int.reduceLT, Int.reduceLE, Int.reduceEq, reduceIte, reduceCtorEq, da, int, boolA, h1]
  | succ d ih =>
    intro i K f hd hc k0 h1 h18 h19 h20
    have g1 : ((i : Int) < n.items.length) = True := by simp; omega
    have gi : i < n.items.length := by omega
    have w1 := wrap_succ (show i < 9223372036854775807 by omega)
    rw [AW_loop]
    unfold c18L0
    rw [List.drop_eq_getElem_cons gi, List.all_cons] at hc
    by_cases c1 : 60 < n.items[i].key.length
    · have d1 : ((n.items[i].key.length : Int) > 60) = True := eq_true (by omega)
      have e : fewI n.items[i] = false := by simp [fewI, c1]
      simp only [↓vp, vq0, vq1, vq2, vq3, vr0, vr1, vr2, vr3, vr4, vr5, vr6, vr7, vr8, vr9, vr10, vr11, vr12, vr13, vr14, vr15, vr16, vr17, vr18, vr19, vr20, vr21, vr22, vr23, vr24, vr25, vr26, vr27, vr28, vr29, vr30, vr31, vr32, vr33, vr34, opS, fpS, okP, pack, nAl, allocA, shId, leaves, fillA, fillR, splice, Nat.reduceLT, Nat.reduceEqDiff, Nat.reduceLeDiff, Nat.reduceAdd, Nat.reduceSub, Nat.reduceMul, Int.reduceBEq, Int.reduceBNe, Int.reduceLT, Int.reduceLE, Int.reduceEq, reduceIte, reduceCtorEq, da, int, boolA, h1, h18, h19, h20, g1, atI gi, cI gi, d1]
      rw [← hx_nil (hx K _)]
      refine hret _ _ (by rw [hc, e, Bool.false_and]) ?_
      simp only [↓vp, vq0, vq1, vq2, vq3, vr0, vr1, vr2, vr3, vr4, vr5, vr6, vr7, vr8, vr9, vr10, vr11, vr12, vr13, vr14, vr15, vr16, vr17, vr18, vr19, vr20, vr21, vr22, vr23, vr24, vr25, vr26, vr27, vr28, vr29, vr30, vr31, vr32, vr33, vr34, opS, fpS, okP, pack, nAl, allocA, shId, leaves, fillA, fillR, splice, Nat.reduceLT, Nat.reduceEqDiff, Nat.reduceLeDiff, Nat.reduceAdd, Nat.reduceSub, Nat.reduceMul, Int.reduceBEq, Int.reduceBNe, Int.reduceLT, Int.reduceLE, Int.reduceEq, reduceIte, reduceCtorEq, da, int, boolA]
    · have d1 : ((n.items[i].key.length : Int) > 60) = False := eq_false (by omega)
      by_cases c2 : 500 < n.items[i].value.length
      · have d2 : ((n.items[i].value.length : Int) > 500) = True := eq_true (by omega)
        have e : fewI n.items[i] = false := by simp [fewI, c2]
        simp only [↓vp, vq0, vq1, vq2, vq3, vr0, vr1, vr2, vr3, vr4, vr5, vr6, vr7, vr8, vr9, vr10, vr11, vr12, vr13, vr14, vr15, vr16, vr17, vr18, vr19, vr20, vr21, vr22, vr23, vr24, vr25, vr26, vr27, vr28, vr29, vr30, vr31, vr32, vr33, vr34, opS, fpS, okP, pack, nAl, allocA, shId, leaves, fillA, fillR, splice, Nat.reduceLT, Nat.reduceEqDiff, Nat.reduceLeDiff, Nat.reduceAdd, Nat.reduceSub, Nat.reduceMul, Int.reduceBEq, Int.reduceBNe, Int.reduceLT, Int.reduceLE, Int.reduceEq, reduceIte, reduceCtorEq, da, int, boolA, h1, h18, h19, h20, g1, atI gi, cI gi, d1, d2]
        rw [← hx_nil (hx K _)]
        refine hret _ _ (by rw [hc, e, Bool.false_and]) ?_
        simp only [↓vp, vq0, vq1, vq2, vq3, vr0, vr1, vr2, vr3, vr4, vr5, vr6, vr7, vr8, vr9, vr10, vr11, vr12, vr13, vr14, vr15, vr16, vr17, vr18, vr19, vr20, vr21, vr22, vr23, vr24, vr25, vr26, vr27, vr28, vr29, vr30, vr31, vr32, vr33, vr34, opS, fpS, okP, pack, nAl, allocA, shId, leaves, fillA, fillR, splice, Nat.reduceLT, Nat.reduceEqDiff, Nat.reduceLeDiff, Nat.reduceAdd, Nat.reduceSub, Nat.reduceMul, Int.reduceBEq, Int.reduceBNe, Int.reduceLT, Int.reduceLE, Int.reduceEq, reduceIte, reduceCtorEq, da, int, boolA]
      · have d2 : ((n.items[i].value.length : Int) > 500) = False := eq_false (by omega)
        have e : fewI n.items[i] = true := by simp [fewI, c1, c2]
        simp only [↓vp, vq0, vq1, vq2, vq3, vr0, vr1, vr2, vr3, vr4, vr5, vr6, vr7, vr8, vr9, vr10, vr11, vr12, vr13, vr14, vr15, vr16, vr17, vr18, vr19, vr20, vr21, vr22, vr23, vr24, vr25, vr26, vr27, vr28, vr29, vr30, vr31, vr32, vr33, vr34, opS, fpS, okP, pack, nAl, allocA, shId, leaves, fillA, fillR, splice, Nat.reduceLT, Nat.reduceEqDiff, Nat.reduceLeDiff, Nat.reduceAdd, Nat.reduceSub, Nat.reduceMul, Int.reduceBEq, Int.reduceBNe, Int.reduceLT, Int.reduceLE, Int.reduceEq, reduceIte, reduceCtorEq, da, int, boolA, h1, h18, h19, h20, g1, atI gi, cI gi, d1, d2, w1]
        rw [← hx_nil (hx K _)]
        refine ih (i + 1) _ _ (by omega) (by rw [hc, e, Bool.true_and]) (get_old k0 _) ?_ ?_ ?_ ?_ <;> simp only [↓vp, vq0, vq1, vq2, vq3, vr0, vr1, vr2, vr3, vr4, vr5, vr6, vr7, vr8, vr9, vr10, vr11, vr12, vr13, vr14, vr15, vr16, vr17, vr18, vr19, vr20, vr21, vr22, vr23, vr24, vr25, vr26, vr27, vr28, vr29, vr30, vr31, vr32, vr33, vr34, opS, fpS, okP, pack, nAl, allocA, shId, leaves, fillA, fillR, splice, Nat.reduceLT, Nat.reduceEqDiff, Nat.reduceLeDiff, Nat.reduceAdd, Nat.reduceSub, Nat.reduceMul, Int.reduceBEq, Int.reduceBNe, Int.reduceLT, Int.reduceLE, Int.reduceEq, reduceIte, reduceCtorEq, da, int, boolA, h1, h18, h19]
theorem l18b (n : NodeM) (hi : n.kids.length ≤ 60) {Q : AExit → Env → Heap → Prop}
   (hex : ∀ f' K, n.kids.all fewK = true → Q (.exit 2) (mkE 47 f') (hx K []))
   (hret : ∀ f' K, n.kids.all fewK = false → f' 2 = boolA false → Q .ret (mkE 47 f') (hx K [])) :
   ∀ (d i : Nat) (K : Heap) (f : Nat → AV), i + d = n.kids.length → n.kids.all fewK = (n.kids.drop i).all fewK → f 36 = encK n.kids → f 37 = int n.kids.length → f 38 = int i →
    AW ft (.loop c18L1) (mkE 47 f) (hx K []) Q := by
  intro d
  induction d with
  | zero =>
    intro i K f hd hc h18 h19 h20
    have g1 : ((i : Int) < n.kids.length) = False := by simp; omega
    rw [AW_loop]
    unfold c18L1
    rw [List.drop_eq_nil_of_le (by omega)] at hc
    simp only [↓vp, vq0, vq1, vq2, vq3, vr0, vr1, vr2, vr3, vr4, vr5, vr6, vr7, vr8, vr9, vr10, vr11, vr12, vr13, vr14, vr15, vr16, vr17, vr18, vr19, vr20, vr21, vr22, vr23, vr24, vr25, vr26, vr27, vr28, vr29, vr30, vr31, vr32, vr33, vr34, opS, fpS, okP, pack, nAl, allocA, shId, leaves, fillA, fillR, splice, Nat.reduceLT, Nat.reduceEqDiff, Nat.reduceLeDiff, Nat.reduceAdd, Nat.reduceSub, Nat.reduceMul, Int.reduceBEq, Int.reduceBNe, Int.reduceLT, Int.reduceLE, Int.reduceEq, reduceIte, reduceCtorEq, da, int, boolA, h19, h20, g1]
    exact hex _ K (by rw [hc]; rfl)
  | succ d ih =>
    intro i K f hd hc h18 h19 h20
    have g1 : ((i : Int) < n.kids.length) = True := by simp; omega
    have gi : i < n.kids.length := by omega
    have w1 := wrap_succ (show i < 9223372036854775807 by omega)
    rw [AW_loop]
    unfold c18L1
    rw [List.drop_eq_getElem_cons gi, List.all_cons] at hc
    by_cases c1 : 60 < n.kids[i].key.length
    · have d1 : ((n.kids[i].key.length : Int) > 60) = True := eq_true (by omega)
      have e : fewK n.kids[i] = false := by simp [fewK, c1]
      simp only [↓vp, vq0, vq1, vq2, vq3, vr0, vr1, vr2, vr3, vr4, vr5, vr6, vr7, vr8, vr9, vr10, vr11, vr12, vr13, vr14, vr15, vr16, vr17, vr18, vr19, vr20, vr21, vr22, vr23, vr24, vr25, vr26, vr27, vr28, vr29, vr30, vr31, vr32, vr33, vr34, opS, fpS, okP, pack, nAl, allocA, shId, leaves, fillA, fillR, splice, Nat.reduceLT, Nat.reduceEqDiff, Nat.reduceLeDiff, Nat.reduceAdd, Nat.reduceSub, Nat.reduceMul, Int.reduceBEq, Int.reduceBNe, Int.reduceLT, Int.reduceLE, Int.reduceEq, reduceIte, reduceCtorEq, da, int, boolA, h18, h19, h20, g1, atK gi, cK gi, d1]
      rw [← hx_nil (hx K _)]
      refine hret _ _ (by rw [hc, e, Bool.false_and]) ?_
      simp only [↓vp, vq0, vq1, vq2, vq3, vr0, vr1, vr2, vr3, vr4, vr5, vr6, vr7, vr8, vr9, vr10, vr11, vr12, vr13, vr14, vr15, vr16, vr17, vr18, vr19, vr20, vr21, vr22, vr23, vr24, vr25, vr26, vr27, vr28, vr29, vr30, vr31, vr32, vr33, vr34, opS, fpS, okP, pack, nAl, allocA, shId, leaves, fillA, fillR, splice, Nat.reduceLT, Nat.reduceEqDiff, Nat.reduceLeDiff, Nat.reduceAdd, Nat.reduceSub, Nat.reduceMul, Int.reduceBEq, Int.reduceBNe, Int.reduceLT, Int.reduceLE, Int.reduceEq, reduceIte, reduceCtorEq, da, int, boolA]
    · have d1 : ((n.kids[i].key.length : Int) > 60) = False := eq_false (by omega)
      have e : fewK n.kids[i] = true := by simp [fewK, c1]
      simp only [↓vp, vq0, vq1, vq2, vq3, vr0, vr1, vr2, vr3, vr4, vr5, vr6, vr7, vr8, vr9, vr10, vr11, vr12, vr13, vr14, vr15, vr16, vr17, vr18, vr19, vr20, vr21, vr22, vr23, vr24, vr25, vr26, vr27, vr28, vr29, vr30, vr31, vr32, vr33, vr34, opS, fpS, okP, pack, nAl, allocA, shId, leaves, fillA, fillR, splice, Nat.reduceLT, Nat.reduceEqDiff, Nat.reduceLeDiff, Nat.reduceAdd, Nat.reduceSub, Nat.reduceMul, Int.reduceBEq, Int.reduceBNe, Int.reduceLT, Int.reduceLE, Int.reduceEq, reduceIte, reduceCtorEq, da, int, boolA, h18, h19, h20, g1, atK gi, cK gi, d1, w1]
      rw [← hx_nil (hx K _)]
      refine ih (i + 1) _ _ (by omega) (by rw [hc, e, Bool.true_and]) ?_ ?_ ?_ <;> simp only [↓vp, vq0, vq1, vq2, vq3, vr0, vr1, vr2, vr3, vr4, vr5, vr6, vr7, vr8, vr9, vr10, vr11, vr12, vr13, vr14, vr15, vr16, vr17, vr18, vr19, vr20, vr21, vr22, vr23, vr24, vr25, vr26, vr27, vr28, vr29, vr30, vr31, vr32, vr33, vr34, opS, fpS, okP, pack, nAl, allocA, shId, leaves, fillA, fillR, splice, Nat.reduceLT, Nat.reduceEqDiff, Nat.reduceLeDiff, Nat.reduceAdd, Nat.reduceSub, Nat.reduceMul, Int.reduceBEq, Int.reduceBNe, Int.reduceLT, Int.reduceLE, Int.reduceEq, reduceIte, reduceCtorEq, da, int, boolA, h18, h19]
theorem s18 (n : NodeM) (H : Heap) : callL ft (.fn (.func 18) [] []) [.agg (nodeC n)] H = some (boolA (few6 n), H) := by
  refine call_p (as' := [.agg (nodeC n)]) rfl rfl (by simp) ?_
  unfold c18 r18
  by_cases c1 : n.items.length ≤ 60
  · have d1 : ((n.items.length : Int) > 60) = False := eq_false (by omega)
    by_cases c2 : n.kids.length ≤ 60
    · have d2 : ((n.kids.length : Int) > 60) = False := eq_false (by omega)
      have ef : few6 n = (n.items.all fewI && n.kids.all fewK) := by simp [few6, c1, c2]
      rw [ef]
      simp only [↓vp, vq0, vq1, vq2, vq3, vr0, vr1, vr2, vr3, vr4, vr5, vr6, vr7, vr8, vr9, vr10, vr11, vr12, vr13, vr14, vr15, vr16, vr17, vr18, vr19, vr20, vr21, vr22, vr23, vr24, vr25, vr26, vr27, vr28, vr29, vr30, vr31, vr32, vr33, vr34, opS, fpS, okP, pack, nAl, allocA, shId, leaves, fillA, fillR, splice, Nat.reduceLT, Nat.reduceEqDiff, Nat.reduceLeDiff, Nat.reduceAdd, Nat.reduceSub, Nat.reduceMul, Int.reduceBEq, Int.reduceBNe, Int.reduceLT, Int.reduceLE, Int.reduceEq, reduceIte, reduceCtorEq, da, int, boolA, d1, d2]
      rw [← hx_nil (hx _ _)]
      refine l18a n c1 (fun f' K hm k0 q1 => ?_) (fun f' K hm q2 => ?_) n.items.length 0 _ _ (by simp) rfl rfl ?_ ?_ ?_ ?_
      · unfold c18R3
        have o0 := get_old k0
        simp only [↓vp, vq0, vq1, vq2, vq3, vr0, vr1, vr2, vr3, vr4, vr5, vr6, vr7, vr8, vr9, vr10, vr11, vr12, vr13, vr14, vr15, vr16, vr17, vr18, vr19, vr20, vr21, vr22, vr23, vr24, vr25, vr26, vr27, vr28, vr29, vr30, vr31, vr32, vr33, vr34, opS, fpS, okP, pack, nAl, allocA, shId, leaves, fillA, fillR, splice, Nat.reduceLT, Nat.reduceEqDiff, Nat.reduceLeDiff, Nat.reduceAdd, Nat.reduceSub, Nat.reduceMul, Int.reduceBEq, Int.reduceBNe, Int.reduceLT, Int.reduceLE, Int.reduceEq, reduceIte, reduceCtorEq, da, int, boolA, q1, o0]
        refine l18b n c2 (fun f' K hk => ?_) (fun f' K hk q2 => ?_) n.kids.length 0 _ _ (by simp) rfl ?_ ?_ ?_
        · unfold c18R2
          simp only [↓vp, vq0, vq1, vq2, vq3, vr0, vr1, vr2, vr3, vr4, vr5, vr6, vr7, vr8, vr9, vr10, vr11, vr12, vr13, vr14, vr15, vr16, vr17, vr18, vr19, vr20, vr21, vr22, vr23, vr24, vr25, vr26, vr27, vr28, vr29, vr30, vr31, vr32, vr33, vr34, opS, fpS, okP, pack, nAl, allocA, shId, leaves, fillA, fillR, splice, Nat.reduceLT, Nat.reduceEqDiff, Nat.reduceLeDiff, Nat.reduceAdd, Nat.reduceSub, Nat.reduceMul, Int.reduceBEq, Int.reduceBNe, Int.reduceLT, Int.reduceLE, Int.reduceEq, reduceIte, reduceCtorEq, da, int, boolA, RetP_go, resT, resC, resN, retV1, retV2, retV3, retV0, frzFZ, takeM, Option.some.injEq, hm, hk, Bool.true_and]
        · simp only [↓vp, vq0, vq1, vq2, vq3, vr0, vr1, vr2, vr3, vr4, vr5, vr6, vr7, vr8, vr9, vr10, vr11, vr12, vr13, vr14, vr15, vr16, vr17, vr18, vr19, vr20, vr21, vr22, vr23, vr24, vr25, vr26, vr27, vr28, vr29, vr30, vr31, vr32, vr33, vr34, opS, fpS, okP, pack, nAl, allocA, shId, leaves, fillA, fillR, splice, Nat.reduceLT, Nat.reduceEqDiff, Nat.reduceLeDiff, Nat.reduceAdd, Nat.reduceSub, Nat.reduceMul, Int.reduceBEq, Int.reduceBNe, Int.reduceLT, Int.reduceLE, Int.reduceEq, reduceIte, reduceCtorEq, da, int, boolA, RetP_go, resT, resC, resN, retV1, retV2, retV3, retV0, frzFZ, takeM, Option.some.injEq, hm, hk, q2, Bool.true_and]
        all_goals first | rfl | (simp only [↓vp, vq0, vq1, vq2, vq3, vr0, vr1, vr2, vr3, vr4, vr5, vr6, vr7, vr8, vr9, vr10, vr11, vr12, vr13, vr14, vr15, vr16, vr17, vr18, vr19, vr20, vr21, vr22, vr23, vr24, vr25, vr26, vr27, vr28, vr29, vr30, vr31, vr32, vr33, vr34, opS, fpS, okP, pack, nAl, allocA, shId, leaves, fillA, fillR, splice, Nat.reduceLT, Nat.reduceEqDiff, Nat.reduceLeDiff, Nat.reduceAdd, Nat.reduceSub, Nat.reduceMul, Int.reduceBEq, Int.reduceBNe, Int.reduceLT, Int.reduceLE, Int.reduceEq, reduceIte, reduceCtorEq, da, int, boolA]; done)
      · simp only [↓vp, vq0, vq1, vq2, vq3, vr0, vr1, vr2, vr3, vr4, vr5, vr6, vr7, vr8, vr9, vr10, vr11, vr12, vr13, vr14, vr15, vr16, vr17, vr18, vr19, vr20, vr21, vr22, vr23, vr24, vr25, vr26, vr27, vr28, vr29, vr30, vr31, vr32, vr33, vr34, opS, fpS, okP, pack, nAl, allocA, shId, leaves, fillA, fillR, splice, Nat.reduceLT, Nat.reduceEqDiff, Nat.reduceLeDiff, Nat.reduceAdd, Nat.reduceSub, Nat.reduceMul, Int.reduceBEq, Int.reduceBNe, Int.reduceLT, Int.reduceLE, Int.reduceEq, reduceIte, reduceCtorEq, da, int, boolA, RetP_go, resT, resC, resN, retV1, retV2, retV3, retV0, frzFZ, takeM, Option.some.injEq, hm, q2, Bool.false_and]
      all_goals first | rfl | (simp only [↓vp, vq0, vq1, vq2, vq3, vr0, vr1, vr2, vr3, vr4, vr5, vr6, vr7, vr8, vr9, vr10, vr11, vr12, vr13, vr14, vr15, vr16, vr17, vr18, vr19, vr20, vr21, vr22, vr23, vr24, vr25, vr26, vr27, vr28, vr29, vr30, vr31, vr32, vr33, vr34, opS, fpS, okP, pack, nAl, allocA, shId, leaves, fillA, fillR, splice, Nat.reduceLT, Nat.reduceEqDiff, Nat.reduceLeDiff, Nat.reduceAdd, Nat.reduceSub, Nat.reduceMul, Int.reduceBEq, Int.reduceBNe, Int.reduceLT, Int.reduceLE, Int.reduceEq, reduceIte, reduceCtorEq, da, int, boolA]; done)
    · have d2 : ((n.kids.length : Int) > 60) = True := eq_true (by omega)
      have ef : few6 n = false := by simp [few6, c2]
      rw [ef]
      simp only [↓vp, vq0, vq1, vq2, vq3, vr0, vr1, vr2, vr3, vr4, vr5, vr6, vr7, vr8, vr9, vr10, vr11, vr12, vr13, vr14, vr15, vr16, vr17, vr18, vr19, vr20, vr21, vr22, vr23, vr24, vr25, vr26, vr27, vr28, vr29, vr30, vr31, vr32, vr33, vr34, opS, fpS, okP, pack, nAl, allocA, shId, leaves, fillA, fillR, splice, Nat.reduceLT, Nat.reduceEqDiff, Nat.reduceLeDiff, Nat.reduceAdd, Nat.reduceSub, Nat.reduceMul, Int.reduceBEq, Int.reduceBNe, Int.reduceLT, Int.reduceLE, Int.reduceEq, reduceIte, reduceCtorEq, da, int, boolA, RetP_go, resT, resC, resN, retV1, retV2, retV3, retV0, frzFZ, takeM, Option.some.injEq, d1, d2]
  · have d1 : ((n.items.length : Int) > 60) = True := eq_true (by omega)
    have ef : few6 n = false := by simp [few6, c1]
    rw [ef]
    simp only [↓vp, vq0, vq1, vq2, vq3, vr0, vr1, vr2, vr3, vr4, vr5, vr6, vr7, vr8, vr9, vr10, vr11, vr12, vr13, vr14, vr15, vr16, vr17, vr18, vr19, vr20, vr21, vr22, vr23, vr24, vr25, vr26, vr27, vr28, vr29, vr30, vr31, vr32, vr33, vr34, opS, fpS, okP, pack, nAl, allocA, shId, leaves, fillA, fillR, splice, Nat.reduceLT, Nat.reduceEqDiff, Nat.reduceLeDiff, Nat.reduceAdd, Nat.reduceSub, Nat.reduceMul, Int.reduceBEq, Int.reduceBNe, Int.reduceLT, Int.reduceLE, Int.reduceEq, reduceIte, reduceCtorEq, da, int, boolA, RetP_go, resT, resC, resN, retV1, retV2, retV3, retV0, frzFZ, takeM, Option.some.injEq, d1]
end Go.VI

set_option linter.unusedVariables false
set_option linter.unusedSimpArgs false
set_option maxRecDepth 100000
namespace Go.VI
attribute [local congr] AW_congr OW_congr DW_congr NW_congr VW_congr GW_congr PW_congr KW_congr ite_congr' GV_congr CV_congr
def okKid (g : Int) (k : Nat) (x : KidM) : Bool := decide (2 ≤ x.ref) && decide (x.ref < 16384) && (k == 0 || (x.key.length != 0 && decide ((x.key.length : Int) ≤ mxk g)))
def okKids (g : Int) : Nat → List KidM → Bool
  | _, [] => true
  | k, x :: r => okKid g k x && okKids g (k + 1) r
theorem l138 (g : Int) (n : NodeM) (hi : n.kids.length ≤ 1000) {Q : AExit → Env → Heap → Prop}
   (hex : ∀ f' K, okKids g 0 n.kids = true → Q (.exit 0) (mkE 61 f') (hx K []))
   (hret : ∀ f' K, okKids g 0 n.kids = false → f' 4 = boolA false → Q .ret (mkE 61 f') (hx K [])) :
   ∀ (d i : Nat) (K : Heap) (f : Nat → AV), i + d = n.kids.length → okKids g 0 n.kids = okKids g i (n.kids.drop i) → f 1 = int g → f 27 = encK n.kids → f 28 = int n.kids.length → f 29 = int i →
    AW ft (.loop c138L0) (mkE 61 f) (hx K []) Q := by
  intro d
  have kk := fun g K L Q => @k170 g K L Q
  simp only [int] at kk
  have pk : pureV ft (.fn (.func 170) [] []) [.sc (.int .i64 g)] = some (false, []) := rfl
  induction d with
  | zero =>
    intro i K f hd hc h1 h27 h28 h29
    have g1 : ((i : Int) < n.kids.length) = False := by simp; omega
    rw [AW_loop]
    unfold c138L0
    rw [List.drop_eq_nil_of_le (by omega)] at hc
    simp only [↓vp, vq0, vq1, vq2, vq3, vr0, vr1, vr2, vr3, vr4, vr5, vr6, vr7, vr8, vr9, vr10, vr11, vr12, vr13, vr14, vr15, vr16, vr17, vr18, vr19, vr20, vr21, vr22, vr23, vr24, vr25, vr26, vr27, vr28, vr29, vr30, vr31, vr32, vr33, vr34, opS, fpS, okP, pack, nAl, allocA, shId, leaves, fillA, fillR, splice, Nat.reduceLT, Nat.reduceEqDiff, Nat.reduceLeDiff, Nat.reduceAdd, Nat.reduceSub, Nat.reduceMul, Int.reduceBEq, Int.reduceBNe, Int.reduceLT, Int.reduceLE, Int.reduceEq, reduceIte, reduceCtorEq, da, int, boolA, h28, h29, g1]
    exact hex _ K (by rw [hc]; rfl)
  | succ d ih =>
    intro i K f hd hc h1 h27 h28 h29
    have g1 : ((i : Int) < n.kids.length) = True := by simp; omega
    have gi : i < n.kids.length := by omega
    have w1 := wrap_succ (show i < 9223372036854775807 by omega)
    rw [AW_loop]
    unfold c138L0
    rw [List.drop_eq_getElem_cons gi, okKids] at hc
    generalize hx0 : n.kids[i] = x at hc
    by_cases c1 : x.ref < 2
    · have e : okKid g i x = false := by simp [okKid, show ¬ 2 ≤ x.ref by omega]
      simp only [↓vp, vq0, vq1, vq2, vq3, vr0, vr1, vr2, vr3, vr4, vr5, vr6, vr7, vr8, vr9, vr10, vr11, vr12, vr13, vr14, vr15, vr16, vr17, vr18, vr19, vr20, vr21, vr22, vr23, vr24, vr25, vr26, vr27, vr28, vr29, vr30, vr31, vr32, vr33, vr34, opS, fpS, okP, pack, nAl, allocA, shId, leaves, fillA, fillR, splice, Nat.reduceLT, Nat.reduceEqDiff, Nat.reduceLeDiff, Nat.reduceAdd, Nat.reduceSub, Nat.reduceMul, Int.reduceBEq, Int.reduceBNe, Int.reduceLT, Int.reduceLE, Int.reduceEq, reduceIte, reduceCtorEq, da, int, boolA, h1, h27, h28, h29, g1, atK gi, cK gi, hx0, kk, pk, w1, c1]
      rw [← hx_nil (hx K _)]
      refine hret _ _ (by rw [hc, e, Bool.false_and]) ?_
      simp only [↓vp, vq0, vq1, vq2, vq3, vr0, vr1, vr2, vr3, vr4, vr5, vr6, vr7, vr8, vr9, vr10, vr11, vr12, vr13, vr14, vr15, vr16, vr17, vr18, vr19, vr20, vr21, vr22, vr23, vr24, vr25, vr26, vr27, vr28, vr29, vr30, vr31, vr32, vr33, vr34, opS, fpS, okP, pack, nAl, allocA, shId, leaves, fillA, fillR, splice, Nat.reduceLT, Nat.reduceEqDiff, Nat.reduceLeDiff, Nat.reduceAdd, Nat.reduceSub, Nat.reduceMul, Int.reduceBEq, Int.reduceBNe, Int.reduceLT, Int.reduceLE, Int.reduceEq, reduceIte, reduceCtorEq, da, int, boolA]
    by_cases c2 : x.ref ≥ 16384
    · have e : okKid g i x = false := by simp [okKid, show ¬ x.ref < 16384 by omega]
      simp only [↓vp, vq0, vq1, vq2, vq3, vr0, vr1, vr2, vr3, vr4, vr5, vr6, vr7, vr8, vr9, vr10, vr11, vr12, vr13, vr14, vr15, vr16, vr17, vr18, vr19, vr20, vr21, vr22, vr23, vr24, vr25, vr26, vr27, vr28, vr29, vr30, vr31, vr32, vr33, vr34, opS, fpS, okP, pack, nAl, allocA, shId, leaves, fillA, fillR, splice, Nat.reduceLT, Nat.reduceEqDiff, Nat.reduceLeDiff, Nat.reduceAdd, Nat.reduceSub, Nat.reduceMul, Int.reduceBEq, Int.reduceBNe, Int.reduceLT, Int.reduceLE, Int.reduceEq, reduceIte, reduceCtorEq, da, int, boolA, h1, h27, h28, h29, g1, atK gi, cK gi, hx0, kk, pk, w1, c1, c2]
      rw [← hx_nil (hx K _)]
      refine hret _ _ (by rw [hc, e, Bool.false_and]) ?_
      simp only [↓vp, vq0, vq1, vq2, vq3, vr0, vr1, vr2, vr3, vr4, vr5, vr6, vr7, vr8, vr9, vr10, vr11, vr12, vr13, vr14, vr15, vr16, vr17, vr18, vr19, vr20, vr21, vr22, vr23, vr24, vr25, vr26, vr27, vr28, vr29, vr30, vr31, vr32, vr33, vr34, opS, fpS, okP, pack, nAl, allocA, shId, leaves, fillA, fillR, splice, Nat.reduceLT, Nat.reduceEqDiff, Nat.reduceLeDiff, Nat.reduceAdd, Nat.reduceSub, Nat.reduceMul, Int.reduceBEq, Int.reduceBNe, Int.reduceLT, Int.reduceLE, Int.reduceEq, reduceIte, reduceCtorEq, da, int, boolA]
    by_cases c3 : (i : Int) > 0
    · have i0 : (i == 0) = false := beq_eq_false_iff_ne.2 (by omega)
      cases c4 : (x.key.length : Int) == 0 with
      | true =>
        have e : okKid g i x = false := by
          have : x.key.length = 0 := by have := eq_of_beq c4; omega
          simp [okKid, i0, this]
        simp only [↓vp, vq0, vq1, vq2, vq3, vr0, vr1, vr2, vr3, vr4, vr5, vr6, vr7, vr8, vr9, vr10, vr11, vr12, vr13, vr14, vr15, vr16, vr17, vr18, vr19, vr20, vr21, vr22, vr23, vr24, vr25, vr26, vr27, vr28, vr29, vr30, vr31, vr32, vr33, vr34, opS, fpS, okP, pack, nAl, allocA, shId, leaves, fillA, fillR, splice, Nat.reduceLT, Nat.reduceEqDiff, Nat.reduceLeDiff, Nat.reduceAdd, Nat.reduceSub, Nat.reduceMul, Int.reduceBEq, Int.reduceBNe, Int.reduceLT, Int.reduceLE, Int.reduceEq, reduceIte, reduceCtorEq, da, int, boolA, h1, h27, h28, h29, g1, atK gi, cK gi, hx0, kk, pk, w1, c1, c2, c3, c4]
        rw [← hx_nil (hx K _)]
        refine hret _ _ (by rw [hc, e, Bool.false_and]) ?_
        simp only [↓vp, vq0, vq1, vq2, vq3, vr0, vr1, vr2, vr3, vr4, vr5, vr6, vr7, vr8, vr9, vr10, vr11, vr12, vr13, vr14, vr15, vr16, vr17, vr18, vr19, vr20, vr21, vr22, vr23, vr24, vr25, vr26, vr27, vr28, vr29, vr30, vr31, vr32, vr33, vr34, opS, fpS, okP, pack, nAl, allocA, shId, leaves, fillA, fillR, splice, Nat.reduceLT, Nat.reduceEqDiff, Nat.reduceLeDiff, Nat.reduceAdd, Nat.reduceSub, Nat.reduceMul, Int.reduceBEq, Int.reduceBNe, Int.reduceLT, Int.reduceLE, Int.reduceEq, reduceIte, reduceCtorEq, da, int, boolA]
      | false =>
        have k0 : x.key.length ≠ 0 := fun h => by rw [h] at c4; exact absurd c4 (by decide)
        by_cases c5 : (x.key.length : Int) > mxk g
        · have e : okKid g i x = false := by simp [okKid, i0, show ¬ (x.key.length : Int) ≤ mxk g by omega]
          simp only [↓vp, vq0, vq1, vq2, vq3, vr0, vr1, vr2, vr3, vr4, vr5, vr6, vr7, vr8, vr9, vr10, vr11, vr12, vr13, vr14, vr15, vr16, vr17, vr18, vr19, vr20, vr21, vr22, vr23, vr24, vr25, vr26, vr27, vr28, vr29, vr30, vr31, vr32, vr33, vr34, opS, fpS, okP, pack, nAl, allocA, shId, leaves, fillA, fillR, splice, Nat.reduceLT, Nat.reduceEqDiff, Nat.reduceLeDiff, Nat.reduceAdd, Nat.reduceSub, Nat.reduceMul, Int.reduceBEq, Int.reduceBNe, Int.reduceLT, Int.reduceLE, Int.reduceEq, reduceIte, reduceCtorEq, da, int, boolA, h1, h27, h28, h29, g1, atK gi, cK gi, hx0, kk, pk, w1, c1, c2, c3, c4, c5]
          rw [← hx_nil (hx K _)]
          refine hret _ _ (by rw [hc, e, Bool.false_and]) ?_
          simp only [↓vp, vq0, vq1, vq2, vq3, vr0, vr1, vr2, vr3, vr4, vr5, vr6, vr7, vr8, vr9, vr10, vr11, vr12, vr13, vr14, vr15, vr16, vr17, vr18, vr19, vr20, vr21, vr22, vr23, vr24, vr25, vr26, vr27, vr28, vr29, vr30, vr31, vr32, vr33, vr34, opS, fpS, okP, pack, nAl, allocA, shId, leaves, fillA, fillR, splice, Nat.reduceLT, Nat.reduceEqDiff, Nat.reduceLeDiff, Nat.reduceAdd, Nat.reduceSub, Nat.reduceMul, Int.reduceBEq, Int.reduceBNe, Int.reduceLT, Int.reduceLE, Int.reduceEq, reduceIte, reduceCtorEq, da, int, boolA]
        · have e : okKid g i x = true := by simp [okKid, i0, k0, show (x.key.length : Int) ≤ mxk g by omega, show 2 ≤ x.ref by omega, show x.ref < 16384 by omega]
          simp only [↓vp, vq0, vq1, vq2, vq3, vr0, vr1, vr2, vr3, vr4, vr5, vr6, vr7, vr8, vr9, vr10, vr11, vr12, vr13, vr14, vr15, vr16, vr17, vr18, vr19, vr20, vr21, vr22, vr23, vr24, vr25, vr26, vr27, vr28, vr29, vr30, vr31, vr32, vr33, vr34, opS, fpS, okP, pack, nAl, allocA, shId, leaves, fillA, fillR, splice, Nat.reduceLT, Nat.reduceEqDiff, Nat.reduceLeDiff, Nat.reduceAdd, Nat.reduceSub, Nat.reduceMul, Int.reduceBEq, Int.reduceBNe, Int.reduceLT, Int.reduceLE, Int.reduceEq, reduceIte, reduceCtorEq, da, int, boolA, h1, h27, h28, h29, g1, atK gi, cK gi, hx0, kk, pk, w1, c1, c2, c3, c4, c5]
          rw [← hx_nil (hx K _)]
          refine ih (i + 1) _ _ (by omega) (by rw [hc, e, Bool.true_and]) ?_ ?_ ?_ ?_ <;> simp only [↓vp, vq0, vq1, vq2, vq3, vr0, vr1, vr2, vr3, vr4, vr5, vr6, vr7, vr8, vr9, vr10, vr11, vr12, vr13, vr14, vr15, vr16, vr17, vr18, vr19, vr20, vr21, vr22, vr23, vr24, vr25, vr26, vr27, vr28, vr29, vr30, vr31, vr32, vr33, vr34, opS, fpS, okP, pack, nAl, allocA, shId, leaves, fillA, fillR, splice, Nat.reduceLT, Nat.reduceEqDiff, Nat.reduceLeDiff, Nat.reduceAdd, Nat.reduceSub, Nat.reduceMul, Int.reduceBEq, Int.reduceBNe, Int.reduceLT, Int.reduceLE, Int.reduceEq, reduceIte, reduceCtorEq, da, int, boolA, h1, h27, h28]
    · have i0 : (i == 0) = true := beq_iff_eq.2 (by omega)
      have e : okKid g i x = true := by simp [okKid, i0, show 2 ≤ x.ref by omega, show x.ref < 16384 by omega]
      simp only [↓vp, vq0, vq1, vq2, vq3, vr0, vr1, vr2, vr3, vr4, vr5, vr6, vr7, vr8, vr9, vr10, vr11, vr12, vr13, vr14, vr15, vr16, vr17, vr18, vr19, vr20, vr21, vr22, vr23, vr24, vr25, vr26, vr27, vr28, vr29, vr30, vr31, vr32, vr33, vr34, opS, fpS, okP, pack, nAl, allocA, shId, leaves, fillA, fillR, splice, Nat.reduceLT, Nat.reduceEqDiff, Nat.reduceLeDiff, Nat.reduceAdd, Nat.reduceSub, Nat.reduceMul, Int.reduceBEq, Int.reduceBNe, Int.reduceLT, Int.reduceLE, Int.reduceEq, reduceIte, reduceCtorEq, da, int, boolA, h1, h27, h28, h29, g1, atK gi, cK gi, hx0, kk, pk, w1, c1, c2, c3]
      rw [← hx_nil (hx K _)]
      refine ih (i + 1) _ _ (by omega) (by rw [hc, e, Bool.true_and]) ?_ ?_ ?_ ?_ <;> simp only [↓vp, vq0, vq1, vq2, vq3, vr0, vr1, vr2, vr3, vr4, vr5, vr6, vr7, vr8, vr9, vr10, vr11, vr12, vr13, vr14, vr15, vr16, vr17, vr18, vr19, vr20, vr21, vr22, vr23, vr24, vr25, vr26, vr27, vr28, vr29, vr30, vr31, vr32, vr33, vr34, opS, fpS, okP, pack, nAl, allocA, shId, leaves, fillA, fillR, splice, Nat.reduceLT, Nat.reduceEqDiff, Nat.reduceLeDiff, Nat.reduceAdd, Nat.reduceSub, Nat.reduceMul, Int.reduceBEq, Int.reduceBNe, Int.reduceLT, Int.reduceLE, Int.reduceEq, reduceIte, reduceCtorEq, da, int, boolA, h1, h27, h28]
def branchM (g : Int) (n : NodeM) : Bool := match n.kids with
  | [] => false
  | x :: _ => n.items.length == 0 && x.key.length == 0 && okKids g 0 n.kids
theorem s138 (g : Int) (n : NodeM) (h2 : n.kids.length ≤ 1000) (H : Heap) : callL ft (.fn (.func 138) [] []) [.agg (nodeC n), int g] H = some (boolA (branchM g n), H) := by
  refine call_p (as' := [.agg (nodeC n), int g]) rfl rfl (by simp) ?_
  unfold c138 r138
  unfold branchM
  cases hk : n.kids with
  | nil =>
    have e1 : ((n.kids.length : Int) == 0) = true := by rw [hk]; rfl
    simp only [↓vp, vq0, vq1, vq2, vq3, vr0, vr1, vr2, vr3, vr4, vr5, vr6, vr7, vr8, vr9, vr10, vr11, vr12, vr13, vr14, vr15, vr16, vr17, vr18, vr19, vr20, vr21, vr22, vr23, vr24, vr25, vr26, vr27, vr28, vr29, vr30, vr31, vr32, vr33, vr34, opS, fpS, okP, pack, nAl, allocA, shId, leaves, fillA, fillR, splice, Nat.reduceLT, Nat.reduceEqDiff, Nat.reduceLeDiff, Nat.reduceAdd, Nat.reduceSub, Nat.reduceMul, Int.reduceBEq, Int.reduceBNe, Int.reduceLT, Int.reduceLE, Int.reduceEq, reduceIte, reduceCtorEq, da, int, boolA, RetP_go, resT, resC, resN, retV1, retV2, retV3, retV0, frzFZ, takeM, Option.some.injEq, e1]
  | cons x r =>
    have gi : 0 < n.kids.length := by rw [hk]; simp
    have hx0 : n.kids[0] = x := by simp [hk]
    have e1 : ((n.kids.length : Int) == 0) = false := beq_eq_false_iff_ne.2 (by omega)
    have ia : ∀ H, iaddrA H none 2 (encK n.kids) 0 = some (.pim (n.kids.map kidC) 0 0) := fun H => atK gi
    by_cases c1 : (n.items.length : Int) > 0
    · have e2 : (n.items.length == 0) = false := beq_eq_false_iff_ne.2 (by omega)
      simp only [↓vp, vq0, vq1, vq2, vq3, vr0, vr1, vr2, vr3, vr4, vr5, vr6, vr7, vr8, vr9, vr10, vr11, vr12, vr13, vr14, vr15, vr16, vr17, vr18, vr19, vr20, vr21, vr22, vr23, vr24, vr25, vr26, vr27, vr28, vr29, vr30, vr31, vr32, vr33, vr34, opS, fpS, okP, pack, nAl, allocA, shId, leaves, fillA, fillR, splice, Nat.reduceLT, Nat.reduceEqDiff, Nat.reduceLeDiff, Nat.reduceAdd, Nat.reduceSub, Nat.reduceMul, Int.reduceBEq, Int.reduceBNe, Int.reduceLT, Int.reduceLE, Int.reduceEq, reduceIte, reduceCtorEq, da, int, boolA, RetP_go, resT, resC, resN, retV1, retV2, retV3, retV0, frzFZ, takeM, Option.some.injEq, e1, c1, e2, Bool.false_and]
    · have e2 : (n.items.length == 0) = true := beq_iff_eq.2 (by omega)
      by_cases c2 : (x.key.length : Int) > 0
      · have e3 : (x.key.length == 0) = false := beq_eq_false_iff_ne.2 (by omega)
        simp only [↓vp, vq0, vq1, vq2, vq3, vr0, vr1, vr2, vr3, vr4, vr5, vr6, vr7, vr8, vr9, vr10, vr11, vr12, vr13, vr14, vr15, vr16, vr17, vr18, vr19, vr20, vr21, vr22, vr23, vr24, vr25, vr26, vr27, vr28, vr29, vr30, vr31, vr32, vr33, vr34, opS, fpS, okP, pack, nAl, allocA, shId, leaves, fillA, fillR, splice, Nat.reduceLT, Nat.reduceEqDiff, Nat.reduceLeDiff, Nat.reduceAdd, Nat.reduceSub, Nat.reduceMul, Int.reduceBEq, Int.reduceBNe, Int.reduceLT, Int.reduceLE, Int.reduceEq, reduceIte, reduceCtorEq, da, int, boolA, RetP_go, resT, resC, resN, retV1, retV2, retV3, retV0, frzFZ, takeM, Option.some.injEq, e1, c1, c2, e2, e3, ia, cK gi, hx0, Bool.false_and, Bool.true_and]
      · have e3 : (x.key.length == 0) = true := beq_iff_eq.2 (by omega)
        rw [← hk]
        simp only [↓vp, vq0, vq1, vq2, vq3, vr0, vr1, vr2, vr3, vr4, vr5, vr6, vr7, vr8, vr9, vr10, vr11, vr12, vr13, vr14, vr15, vr16, vr17, vr18, vr19, vr20, vr21, vr22, vr23, vr24, vr25, vr26, vr27, vr28, vr29, vr30, vr31, vr32, vr33, vr34, opS, fpS, okP, pack, nAl, allocA, shId, leaves, fillA, fillR, splice, Nat.reduceLT, Nat.reduceEqDiff, Nat.reduceLeDiff, Nat.reduceAdd, Nat.reduceSub, Nat.reduceMul, Int.reduceBEq, Int.reduceBNe, Int.reduceLT, Int.reduceLE, Int.reduceEq, reduceIte, reduceCtorEq, da, int, boolA, e1, c1, c2, e2, e3, ia, cK gi, hx0, Bool.false_and, Bool.true_and]
        rw [← hx_nil (hx _ _)]
        refine l138 g n h2 (fun f' K hm => ?_) (fun f' K hm q4 => ?_) n.kids.length 0 _ _ (by simp) rfl ?_ ?_ ?_ ?_
        · unfold c138R1
          simp only [↓vp, vq0, vq1, vq2, vq3, vr0, vr1, vr2, vr3, vr4, vr5, vr6, vr7, vr8, vr9, vr10, vr11, vr12, vr13, vr14, vr15, vr16, vr17, vr18, vr19, vr20, vr21, vr22, vr23, vr24, vr25, vr26, vr27, vr28, vr29, vr30, vr31, vr32, vr33, vr34, opS, fpS, okP, pack, nAl, allocA, shId, leaves, fillA, fillR, splice, Nat.reduceLT, Nat.reduceEqDiff, Nat.reduceLeDiff, Nat.reduceAdd, Nat.reduceSub, Nat.reduceMul, Int.reduceBEq, Int.reduceBNe, Int.reduceLT, Int.reduceLE, Int.reduceEq, reduceIte, reduceCtorEq, da, int, boolA, RetP_go, resT, resC, resN, retV1, retV2, retV3, retV0, frzFZ, takeM, Option.some.injEq, hm]
          rw [hk]
          simp only [e3]
        · simp only [↓vp, vq0, vq1, vq2, vq3, vr0, vr1, vr2, vr3, vr4, vr5, vr6, vr7, vr8, vr9, vr10, vr11, vr12, vr13, vr14, vr15, vr16, vr17, vr18, vr19, vr20, vr21, vr22, vr23, vr24, vr25, vr26, vr27, vr28, vr29, vr30, vr31, vr32, vr33, vr34, opS, fpS, okP, pack, nAl, allocA, shId, leaves, fillA, fillR, splice, Nat.reduceLT, Nat.reduceEqDiff, Nat.reduceLeDiff, Nat.reduceAdd, Nat.reduceSub, Nat.reduceMul, Int.reduceBEq, Int.reduceBNe, Int.reduceLT, Int.reduceLE, Int.reduceEq, reduceIte, reduceCtorEq, da, int, boolA, RetP_go, resT, resC, resN, retV1, retV2, retV3, retV0, frzFZ, takeM, Option.some.injEq, hm, q4]
          rw [hk]
          simp only [Bool.and_false]
        all_goals first | rfl | (simp only [↓vp, vq0, vq1, vq2, vq3, vr0, vr1, vr2, vr3, vr4, vr5, vr6, vr7, vr8, vr9, vr10, vr11, vr12, vr13, vr14, vr15, vr16, vr17, vr18, vr19, vr20, vr21, vr22, vr23, vr24, vr25, vr26, vr27, vr28, vr29, vr30, vr31, vr32, vr33, vr34, opS, fpS, okP, pack, nAl, allocA, shId, leaves, fillA, fillR, splice, Nat.reduceLT, Nat.reduceEqDiff, Nat.reduceLeDiff, Nat.reduceAdd, Nat.reduceSub, Nat.reduceMul, Int.reduceBEq, Int.reduceBNe, Int.reduceLT, Int.reduceLE, Int.reduceEq, reduceIte, reduceCtorEq, da, int, boolA]; done)
end Go.VI

set_option linter.unusedVariables false
set_option linter.unusedSimpArgs false
set_option maxRecDepth 100000
namespace Go.VI
attribute [local congr] AW_congr OW_congr DW_congr NW_congr VW_congr GW_congr PW_congr KW_congr ite_congr' GV_congr CV_congr
def kindM (g : Int) (n : NodeM) : Bool := if n.leaf then n.kids.length == 0 && n.items.all (rightP g) else branchM g n
def rightN (g : Int) (n : NodeM) : Bool := gen g && kindM g n && risL (keysM n) && fitsM g n
theorem keys_ok {n : NodeM} (hn : okN n) : ∀ b ∈ keysM n, okB b := by
  intro b hb
  unfold keysM at hb
  rcases List.mem_append.1 hb with h | h
  · obtain ⟨x, hx, rfl⟩ := List.mem_map.1 h
    exact (hn.i.h x hx).k
  · obtain ⟨x, hx, rfl⟩ := List.mem_map.1 h
    exact hn.k.h x (List.mem_of_mem_drop hx)
theorem keys_len {n : NodeM} (h1 : n.items.length ≤ 1000) (h2 : n.kids.length ≤ 1000) : (keysM n).length ≤ 1000000 := by
  unfold keysM
  simp
  omega
theorem kleaf' {g : Int} {n : NodeM} (hn : okN n) {K : Heap} {L : List Blk} {Q : AV → Heap → Prop} : KW ft (.fn (.func 139) [.agg (nodeC n)] []) [int g] (hx K L) Q ↔ Q (boolA (n.kids.length == 0 && n.items.all (rightP g))) (hx K L) := KW_of (by
  have := s139 g n hn (hx K L)
  rw [callL_fn] at this ⊢
  exact this)
theorem kbranch' {g : Int} {n : NodeM} (h2 : n.kids.length ≤ 1000) {K : Heap} {L : List Blk} {Q : AV → Heap → Prop} : KW ft (.fn (.func 138) [.agg (nodeC n)] []) [int g] (hx K L) Q ↔ Q (boolA (branchM g n)) (hx K L) := KW_of (by
  have := s138 g n h2 (hx K L)
  rw [callL_fn] at this ⊢
  exact this)
theorem s79 (g : Int) (n : NodeM) (hn : okN n) (h1 : n.items.length ≤ 1000) (h2 : n.kids.length ≤ 1000) (H : Heap) : callL ft (.fn (.func 79) [] []) [int g, .agg (nodeC n)] H = some (boolA (rightN g n), H) := by
  refine call_p (as' := [int g, .agg (nodeC n)]) rfl rfl (by simp) ?_
  unfold c79 r79 rightN
  have k1 := fun g K L Q => @k140 g K L Q
  have k2 := fun K L Q => @kleaf' g n hn K L Q
  have k3 := fun K L Q => @kbranch' g n h2 K L Q
  have k4 := fun K L Q => @k142 n h1 h2 K L Q
  have k5 := fun K L Q => @k141 (keysM n) (keys_len h1 h2) (keys_ok hn) K L Q
  have k6 := fun K L Q => @k26 g n hn h1 h2 K L Q
  have one : (encKs (keysM n)).one = true := rfl
  simp only [int] at k1 k2 k3 k6
  have hkd : kindM g n = if n.leaf then n.kids.length == 0 && n.items.all (rightP g) else branchM g n := rfl
  cases e : gen g with
  | false =>
    cases el : n.leaf with
    | true => simp only [↓vp, vq0, vq1, vq2, vq3, vr0, vr1, vr2, vr3, vr4, vr5, vr6, vr7, vr8, vr9, vr10, vr11, vr12, vr13, vr14, vr15, vr16, vr17, vr18, vr19, vr20, vr21, vr22, vr23, vr24, vr25, vr26, vr27, vr28, vr29, vr30, vr31, vr32, vr33, vr34, opS, fpS, okP, pack, nAl, allocA, shId, leaves, fillA, fillR, splice, Nat.reduceLT, Nat.reduceEqDiff, Nat.reduceLeDiff, Nat.reduceAdd, Nat.reduceSub, Nat.reduceMul, Int.reduceBEq, Int.reduceBNe, Int.reduceLT, Int.reduceLE, Int.reduceEq, reduceIte, reduceCtorEq, da, int, boolA, RetP_go, resT, resC, resN, retV1, retV2, retV3, retV0, frzFZ, takeM, Option.some.injEq, k1, e, el, Bool.false_and]
    | false => simp only [↓vp, vq0, vq1, vq2, vq3, vr0, vr1, vr2, vr3, vr4, vr5, vr6, vr7, vr8, vr9, vr10, vr11, vr12, vr13, vr14, vr15, vr16, vr17, vr18, vr19, vr20, vr21, vr22, vr23, vr24, vr25, vr26, vr27, vr28, vr29, vr30, vr31, vr32, vr33, vr34, opS, fpS, okP, pack, nAl, allocA, shId, leaves, fillA, fillR, splice, Nat.reduceLT, Nat.reduceEqDiff, Nat.reduceLeDiff, Nat.reduceAdd, Nat.reduceSub, Nat.reduceMul, Int.reduceBEq, Int.reduceBNe, Int.reduceLT, Int.reduceLE, Int.reduceEq, reduceIte, reduceCtorEq, da, int, boolA, RetP_go, resT, resC, resN, retV1, retV2, retV3, retV0, frzFZ, takeM, Option.some.injEq, k1, e, el, Bool.false_and]
  | true =>
    cases el : n.leaf with
    | true =>
      rw [el, if_pos rfl] at hkd
      cases ek : kindM g n with
      | false =>
        rw [ek] at hkd
        simp only [↓vp, vq0, vq1, vq2, vq3, vr0, vr1, vr2, vr3, vr4, vr5, vr6, vr7, vr8, vr9, vr10, vr11, vr12, vr13, vr14, vr15, vr16, vr17, vr18, vr19, vr20, vr21, vr22, vr23, vr24, vr25, vr26, vr27, vr28, vr29, vr30, vr31, vr32, vr33, vr34, opS, fpS, okP, pack, nAl, allocA, shId, leaves, fillA, fillR, splice, Nat.reduceLT, Nat.reduceEqDiff, Nat.reduceLeDiff, Nat.reduceAdd, Nat.reduceSub, Nat.reduceMul, Int.reduceBEq, Int.reduceBNe, Int.reduceLT, Int.reduceLE, Int.reduceEq, reduceIte, reduceCtorEq, da, int, boolA, RetP_go, resT, resC, resN, retV1, retV2, retV3, retV0, frzFZ, takeM, Option.some.injEq, k1, k2, ← hkd, e, el, Bool.false_and, Bool.true_and]
      | true =>
        rw [ek] at hkd
        cases er : risL (keysM n) with
        | false => simp only [↓vp, vq0, vq1, vq2, vq3, vr0, vr1, vr2, vr3, vr4, vr5, vr6, vr7, vr8, vr9, vr10, vr11, vr12, vr13, vr14, vr15, vr16, vr17, vr18, vr19, vr20, vr21, vr22, vr23, vr24, vr25, vr26, vr27, vr28, vr29, vr30, vr31, vr32, vr33, vr34, opS, fpS, okP, pack, nAl, allocA, shId, leaves, fillA, fillR, splice, Nat.reduceLT, Nat.reduceEqDiff, Nat.reduceLeDiff, Nat.reduceAdd, Nat.reduceSub, Nat.reduceMul, Int.reduceBEq, Int.reduceBNe, Int.reduceLT, Int.reduceLE, Int.reduceEq, reduceIte, reduceCtorEq, da, int, boolA, RetP_go, resT, resC, resN, retV1, retV2, retV3, retV0, frzFZ, takeM, Option.some.injEq, k1, k2, k4, k5, one, ← hkd, e, el, er, Bool.false_and, Bool.true_and]
        | true => simp only [↓vp, vq0, vq1, vq2, vq3, vr0, vr1, vr2, vr3, vr4, vr5, vr6, vr7, vr8, vr9, vr10, vr11, vr12, vr13, vr14, vr15, vr16, vr17, vr18, vr19, vr20, vr21, vr22, vr23, vr24, vr25, vr26, vr27, vr28, vr29, vr30, vr31, vr32, vr33, vr34, opS, fpS, okP, pack, nAl, allocA, shId, leaves, fillA, fillR, splice, Nat.reduceLT, Nat.reduceEqDiff, Nat.reduceLeDiff, Nat.reduceAdd, Nat.reduceSub, Nat.reduceMul, Int.reduceBEq, Int.reduceBNe, Int.reduceLT, Int.reduceLE, Int.reduceEq, reduceIte, reduceCtorEq, da, int, boolA, RetP_go, resT, resC, resN, retV1, retV2, retV3, retV0, frzFZ, takeM, Option.some.injEq, k1, k2, k4, k5, k6, one, ← hkd, e, el, er, Bool.false_and, Bool.true_and]
    | false =>
      rw [el, if_neg (by simp)] at hkd
      cases ek : kindM g n with
      | false =>
        rw [ek] at hkd
        simp only [↓vp, vq0, vq1, vq2, vq3, vr0, vr1, vr2, vr3, vr4, vr5, vr6, vr7, vr8, vr9, vr10, vr11, vr12, vr13, vr14, vr15, vr16, vr17, vr18, vr19, vr20, vr21, vr22, vr23, vr24, vr25, vr26, vr27, vr28, vr29, vr30, vr31, vr32, vr33, vr34, opS, fpS, okP, pack, nAl, allocA, shId, leaves, fillA, fillR, splice, Nat.reduceLT, Nat.reduceEqDiff, Nat.reduceLeDiff, Nat.reduceAdd, Nat.reduceSub, Nat.reduceMul, Int.reduceBEq, Int.reduceBNe, Int.reduceLT, Int.reduceLE, Int.reduceEq, reduceIte, reduceCtorEq, da, int, boolA, RetP_go, resT, resC, resN, retV1, retV2, retV3, retV0, frzFZ, takeM, Option.some.injEq, k1, k3, ← hkd, e, el, Bool.false_and, Bool.true_and]
      | true =>
        rw [ek] at hkd
        cases er : risL (keysM n) with
        | false => simp only [↓vp, vq0, vq1, vq2, vq3, vr0, vr1, vr2, vr3, vr4, vr5, vr6, vr7, vr8, vr9, vr10, vr11, vr12, vr13, vr14, vr15, vr16, vr17, vr18, vr19, vr20, vr21, vr22, vr23, vr24, vr25, vr26, vr27, vr28, vr29, vr30, vr31, vr32, vr33, vr34, opS, fpS, okP, pack, nAl, allocA, shId, leaves, fillA, fillR, splice, Nat.reduceLT, Nat.reduceEqDiff, Nat.reduceLeDiff, Nat.reduceAdd, Nat.reduceSub, Nat.reduceMul, Int.reduceBEq, Int.reduceBNe, Int.reduceLT, Int.reduceLE, Int.reduceEq, reduceIte, reduceCtorEq, da, int, boolA, RetP_go, resT, resC, resN, retV1, retV2, retV3, retV0, frzFZ, takeM, Option.some.injEq, k1, k3, k4, k5, one, ← hkd, e, el, er, Bool.false_and, Bool.true_and]
        | true => simp only [↓vp, vq0, vq1, vq2, vq3, vr0, vr1, vr2, vr3, vr4, vr5, vr6, vr7, vr8, vr9, vr10, vr11, vr12, vr13, vr14, vr15, vr16, vr17, vr18, vr19, vr20, vr21, vr22, vr23, vr24, vr25, vr26, vr27, vr28, vr29, vr30, vr31, vr32, vr33, vr34, opS, fpS, okP, pack, nAl, allocA, shId, leaves, fillA, fillR, splice, Nat.reduceLT, Nat.reduceEqDiff, Nat.reduceLeDiff, Nat.reduceAdd, Nat.reduceSub, Nat.reduceMul, Int.reduceBEq, Int.reduceBNe, Int.reduceLT, Int.reduceLE, Int.reduceEq, reduceIte, reduceCtorEq, da, int, boolA, RetP_go, resT, resC, resN, retV1, retV2, retV3, retV0, frzFZ, takeM, Option.some.injEq, k1, k3, k4, k5, k6, one, ← hkd, e, el, er, Bool.false_and, Bool.true_and]
end Go.VI

set_option linter.unusedVariables false
set_option linter.unusedSimpArgs false
namespace Go.VI
/-- The document's loop. -/
def docAt (tot : Int) (l : List Int) : Nat → Nat → Nat
  | 0, k => k
  | d + 1, k => if k < l.length - 1 ∧ 2 * sumZ (l.take k) < tot then docAt tot l d (k + 1) else k
theorem docAt_atG (tot : Int) (l : List Int) : ∀ (d k e : Nat), k + d + 1 = l.length - 1 → d ≤ e → docAt tot l e (k + 1) = atG tot (sumZ (l.take k)) k ((l.take (l.length - 1)).drop k) := by
  intro d
  induction d with
  | zero =>
    intro k e hk he
    have gk : k < (l.take (l.length - 1)).length := by simp; omega
    rw [List.drop_eq_getElem_cons gk, List.drop_eq_nil_of_le (by simp; omega), atG, atG]
    have h1 : docAt tot l e (k + 1) = k + 1 := by
      cases e with
      | zero => rfl
      | succ e => unfold docAt; rw [if_neg (by omega)]
    rw [h1]
    split <;> rfl
  | succ d ih =>
    intro k e hk he
    have gk : k < (l.take (l.length - 1)).length := by simp; omega
    have gl : k < l.length := by omega
    cases e with
    | zero => omega
    | succ e =>
      have hs : sumZ (l.take (k + 1)) = sumZ (l.take k) + (l.take (l.length - 1))[k] := by
        rw [List.take_succ_eq_append_getElem gl, sumZ_app]
        simp [sumZ]
      rw [List.drop_eq_getElem_cons gk, atG, ← hs]
      unfold docAt
      by_cases c : 2 * sumZ (l.take (k + 1)) < tot
      · rw [if_pos ⟨by omega, c⟩, if_neg (by omega)]
        exact ih (k + 1) e (by omega) (by omega)
      · rw [if_neg (fun h => c h.2), if_pos (by omega)]
/-- The place of the cut. -/
theorem docAt_eq (g : Int) (n : NodeM) (h : 2 ≤ (roomsM g n).length) {e : Nat} (he : (roomsM g n).length ≤ e) : docAt (roomM g n) (roomsM g n) e 1 = atM g n := by
  have := docAt_atG (roomM g n) (roomsM g n) ((roomsM g n).length - 2) 0 e (by omega) (by omega)
  simpa [atM, sumZ] using this
theorem atG_bound (tot : Int) : ∀ (r : List Int) (s : Int) (k : Nat), k ≤ atG tot s k r ∧ atG tot s k r ≤ k + r.length ∧ (r ≠ [] → k < atG tot s k r)
  | [], s, k => ⟨Nat.le_refl _, by simp [atG], fun h => absurd rfl h⟩
  | x :: r, s, k => by
    obtain ⟨a, b, c⟩ := atG_bound tot r (s + x) (k + 1)
    unfold atG
    split
    · exact ⟨by omega, by simp, fun _ => by omega⟩
    · refine ⟨by omega, ?_, fun _ => by omega⟩
      simp only [List.length_cons]
      omega
/-- Neither half is empty. -/
theorem atM_bound (g : Int) (n : NodeM) (h : 2 ≤ (roomsM g n).length) : 1 ≤ atM g n ∧ atM g n < (roomsM g n).length := by
  obtain ⟨a, b, c⟩ := atG_bound (roomM g n) ((roomsM g n).take ((roomsM g n).length - 1)) 0 0
  have hne : (roomsM g n).take ((roomsM g n).length - 1) ≠ [] := fun e => by
    have := congrArg List.length e
    simp at this
    omega
  have := c hne
  unfold atM
  simp only [List.length_take] at b
  omega
theorem slice_l (n : NodeM) (k : Nat) : sliceM n 0 k = (cutM n k).1 := by
  unfold sliceM cutM
  split <;> simp
theorem slice_r (n : NodeM) (k : Nat) (h0 : 0 < k) : sliceM n k (manyN n).toNat = (cutM n k).2.1 := by
  unfold sliceM cutM manyN
  split
  · simp only [Int.toNat_natCast]
    rw [← List.length_drop, List.take_length]
  · rw [if_neg (by omega)]
    simp only [Int.toNat_natCast]
    rw [← List.length_drop, List.take_length]
/-- The pieces. -/
def partsM (g : Int) : Nat → Bytes → NodeM → List (Bytes × NodeM)
  | 0, key, n => [(key, n)]
  | d + 1, key, n => if fitsM g n || decide ((roomsM g n).length < 2) then [(key, n)] else partsM g d key (cutM n (atM g n)).1 ++ partsM g d (cutM n (atM g n)).2.2 (cutM n (atM g n)).2.1
theorem parts_ne (g : Int) : ∀ (d : Nat) (key : Bytes) (n : NodeM), partsM g d key n ≠ []
  | 0, key, n => by simp [partsM]
  | d + 1, key, n => by
    unfold partsM
    split
    · simp
    · simp [parts_ne g d]
theorem rooms_cut_l (g : Int) (n : NodeM) (k : Nat) : roomsM g (cutM n k).1 = (roomsM g n).take k := by
  unfold roomsM cutM
  cases e : n.leaf <;> simp [List.map_take]
theorem noKey_len : ∀ l : List KidM, (noKey l).length = l.length
  | [] => rfl
  | x :: r => rfl
theorem rooms_cut_r (g : Int) (n : NodeM) (k : Nat) : (roomsM g (cutM n k).2.1).length = (roomsM g n).length - k := by
  unfold roomsM cutM
  cases e : n.leaf <;> simp [noKey_len]
/-- Each piece fits, or has no more than one item, or kid. -/
theorem parts_fit (g : Int) : ∀ (d : Nat) (key : Bytes) (n : NodeM), (roomsM g n).length ≤ d → ∀ p ∈ partsM g d key n, fitsM g p.2 = true ∨ (roomsM g p.2).length < 2
  | 0, key, n, h, p, hp => by
    simp only [partsM, List.mem_singleton] at hp
    subst hp
    exact .inr (by show (roomsM g n).length < 2; omega)
  | d + 1, key, n, h, p, hp => by
    unfold partsM at hp
    split at hp
    · rename_i hc
      simp only [List.mem_singleton] at hp
      subst hp
      simpa using hc
    · rename_i hc
      have h2 : 2 ≤ (roomsM g n).length := by
        simp only [Bool.or_eq_true, decide_eq_true_eq, not_or] at hc
        omega
      obtain ⟨b1, b2⟩ := atM_bound g n h2
      rcases List.mem_append.1 hp with hp | hp
      · refine parts_fit g d _ _ ?_ p hp
        rw [rooms_cut_l]
        simp
        omega
      · refine parts_fit g d _ _ ?_ p hp
        rw [rooms_cut_r]
        omega
end Go.VI

set_option linter.unusedVariables false
set_option linter.unusedSimpArgs false
namespace Go.VI
def withKey (key : Bytes) : List KidM → List KidM
  | [] => []
  | x :: r => ⟨key, x.ref⟩ :: r
def joinM (a b : NodeM) (key : Bytes) : NodeM := ⟨a.leaf, a.items ++ b.items, a.kids ++ withKey key b.kids⟩
def joinAll : NodeM → List (Bytes × NodeM) → NodeM
  | a, [] => a
  | a, p :: r => joinAll (joinM a p.2 p.1) r
theorem joinAll_app : ∀ (l r : List (Bytes × NodeM)) (a : NodeM), joinAll a (l ++ r) = joinAll (joinAll a l) r
  | [], r, a => rfl
  | p :: l, r, a => joinAll_app l r (joinM a p.2 p.1)
/-- A node that has just what its kind has. -/
def pureM (n : NodeM) : Prop := if n.leaf then n.kids = [] else n.items = []
theorem withKey_take (key : Bytes) (l : List KidM) {k : Nat} (h : 0 < k) : withKey key (l.take k) ++ l.drop k = withKey key l := by
  cases l with
  | nil => simp [withKey]
  | cons x r =>
    cases k with
    | zero => omega
    | succ k => simp [withKey]
theorem withKey_noKey (l : List KidM) (k : Nat) : withKey (((l[k]?).map (·.key)).getD []) (noKey (l.drop k)) = l.drop k := by
  by_cases h : k < l.length
  · rw [List.drop_eq_getElem_cons h, List.getElem?_eq_getElem h]
    rfl
  · rw [List.drop_eq_nil_of_le (by omega)]
    rfl
theorem cut_leaf (n : NodeM) (k : Nat) : (cutM n k).1.leaf = n.leaf ∧ (cutM n k).2.1.leaf = n.leaf := by
  unfold cutM
  cases n.leaf <;> exact ⟨rfl, rfl⟩
theorem cut_pure (n : NodeM) (k : Nat) : pureM (cutM n k).1 ∧ pureM (cutM n k).2.1 := by
  unfold cutM pureM
  cases n.leaf <;> exact ⟨rfl, rfl⟩
theorem join_cut (a n : NodeM) (key : Bytes) {k : Nat} (hk : 0 < k) (hp : pureM n) : joinM (joinM a (cutM n k).1 key) (cutM n k).2.1 (cutM n k).2.2 = joinM a n key := by
  unfold joinM cutM
  unfold pureM at hp
  cases e : n.leaf with
  | true =>
    rw [e] at hp
    simp only [if_true] at hp ⊢
    rw [hp]
    simp [withKey]
  | false =>
    rw [e] at hp
    simp only [Bool.false_eq_true, if_false] at hp ⊢
    rw [hp]
    simp only [List.append_nil, withKey_noKey, List.append_assoc, withKey_take key n.kids hk]
theorem parts_join (g : Int) : ∀ (d : Nat) (key : Bytes) (n a : NodeM), pureM n → joinAll a (partsM g d key n) = joinM a n key
  | 0, key, n, a, hp => rfl
  | d + 1, key, n, a, hp => by
    unfold partsM
    split
    · rfl
    · rename_i hc
      have h2 : 2 ≤ (roomsM g n).length := by
        simp only [Bool.or_eq_true, decide_eq_true_eq, not_or] at hc
        omega
      obtain ⟨b1, b2⟩ := atM_bound g n h2
      obtain ⟨p1, p2⟩ := cut_pure n (atM g n)
      rw [joinAll_app, parts_join g d _ _ _ p1, parts_join g d _ _ _ p2, join_cut a n key (by omega) hp]
/-- The first piece begins as the node does. -/
theorem parts_head (g : Int) : ∀ (d : Nat) (key : Bytes) (n : NodeM), ∃ n0 r, partsM g d key n = (key, n0) :: r ∧ n0.leaf = n.leaf ∧ (n0.kids = [] ∨ ∃ x, n0.kids[0]? = some x ∧ n.kids[0]? = some x)
  | 0, key, n => ⟨n, [], rfl, rfl, by
      cases h : n.kids with
      | nil => exact .inl rfl
      | cons x r => exact .inr ⟨x, rfl, rfl⟩⟩
  | d + 1, key, n => by
    unfold partsM
    split
    · refine ⟨n, [], rfl, rfl, ?_⟩
      cases h : n.kids with
      | nil => exact .inl rfl
      | cons x r => exact .inr ⟨x, rfl, rfl⟩
    · rename_i hc
      have h2 : 2 ≤ (roomsM g n).length := by
        simp only [Bool.or_eq_true, decide_eq_true_eq, not_or] at hc
        omega
      obtain ⟨b1, b2⟩ := atM_bound g n h2
      obtain ⟨n0, r, e1, e2, e3⟩ := parts_head g d key (cutM n (atM g n)).1
      refine ⟨n0, r ++ partsM g d (cutM n (atM g n)).2.2 (cutM n (atM g n)).2.1, by rw [e1]; rfl, e2.trans (cut_leaf n _).1, ?_⟩
      rcases e3 with e3 | ⟨x, e3, e4⟩
      · exact .inl e3
      · refine .inr ⟨x, e3, ?_⟩
        unfold cutM at e4
        split at e4
        · simp at e4
        · simp only [List.getElem?_take] at e4
          split at e4
          · exact e4
          · cases e4
theorem withKey_nil {l : List KidM} (h : ∀ x, l[0]? = some x → x.key = []) : withKey [] l = l := by
  cases l with
  | nil => rfl
  | cons x r =>
    have := h x rfl
    unfold withKey
    rw [← this]
theorem join_empty {n : NodeM} (h : ∀ x, n.kids[0]? = some x → x.key = []) : joinM ⟨n.leaf, [], []⟩ n [] = n := by
  unfold joinM
  simp only [List.nil_append, withKey_nil h]
/-- THE PIECES, JOINED BY THEIR KEYS, ARE THE NODE. -/
theorem parts_whole (g : Int) (d : Nat) (n : NodeM) (hp : pureM n) (h : ∀ x, n.kids[0]? = some x → x.key = []) : ∃ n0 r, partsM g d [] n = ([], n0) :: r ∧ joinAll n0 r = n := by
  obtain ⟨n0, r, e1, e2, e3⟩ := parts_head g d [] n
  refine ⟨n0, r, e1, ?_⟩
  have h0 : ∀ x, n0.kids[0]? = some x → x.key = [] := fun x hx => by
    rcases e3 with e3 | ⟨y, e3, e4⟩
    · rw [e3] at hx; cases hx
    · rw [e3] at hx; cases hx; exact h _ e4
  have := parts_join g d [] n ⟨n.leaf, [], []⟩ hp
  rw [e1, join_empty h] at this
  show joinAll n0 r = n
  unfold joinAll at this
  simp only at this
  rw [← e2, join_empty h0] at this
  exact this
/-- How many there are. -/
def countM (n : NodeM) : Nat := if n.leaf then n.items.length else n.kids.length
theorem rooms_count (g : Int) (n : NodeM) : (roomsM g n).length = countM n := by
  unfold roomsM countM
  split <;> simp
theorem parts_count (g : Int) : ∀ (d : Nat) (key : Bytes) (n : NodeM), ((partsM g d key n).map fun p => countM p.2).sum = countM n
  | 0, key, n => by simp [partsM]
  | d + 1, key, n => by
    unfold partsM
    split
    · simp
    · rename_i hc
      have h2 : 2 ≤ (roomsM g n).length := by
        simp only [Bool.or_eq_true, decide_eq_true_eq, not_or] at hc
        omega
      obtain ⟨b1, b2⟩ := atM_bound g n h2
      rw [List.map_append, List.sum_append, parts_count g d, parts_count g d, ← rooms_count g, ← rooms_count g, ← rooms_count g, rooms_cut_l, rooms_cut_r, List.length_take]
      omega
theorem parts_leaf (g : Int) : ∀ (d : Nat) (key : Bytes) (n : NodeM), ∀ p ∈ partsM g d key n, p.2.leaf = n.leaf
  | 0, key, n, p, hp => by
    simp only [partsM, List.mem_singleton] at hp
    subst hp; rfl
  | d + 1, key, n, p, hp => by
    unfold partsM at hp
    split at hp
    · simp only [List.mem_singleton] at hp
      subst hp; rfl
    · rcases List.mem_append.1 hp with hp | hp
      · exact (parts_leaf g d _ _ p hp).trans (cut_leaf n _).1
      · exact (parts_leaf g d _ _ p hp).trans (cut_leaf n _).2
end Go.VI

set_option linter.unusedVariables false
set_option linter.unusedSimpArgs false
namespace Go.VI
/-- Where the walk stops: half is reached there, or it is the end; one step ahead half was not reached. -/
theorem atG_spec (tot : Int) : ∀ (r : List Int) (s : Int) (k : Nat), (tot ≤ 2 * (s + sumZ (r.take (atG tot s k r - k))) ∨ atG tot s k r = k + r.length) ∧ (k + 1 < atG tot s k r → 2 * (s + sumZ (r.take (atG tot s k r - k - 1))) < tot)
  | [], s, k => ⟨.inr rfl, fun h => by simp [atG] at h; omega⟩
  | x :: r, s, k => by
    obtain ⟨a, b⟩ := atG_spec tot r (s + x) (k + 1)
    obtain ⟨c, d, e⟩ := atG_bound tot r (s + x) (k + 1)
    unfold atG
    split
    · rename_i h
      refine ⟨.inl ?_, fun h => by omega⟩
      rw [Nat.add_sub_cancel_left]
      simpa [sumZ] using h
    · rename_i h
      have e1 : atG tot (s + x) (k + 1) r - k = (atG tot (s + x) (k + 1) r - (k + 1)) + 1 := by omega
      refine ⟨?_, fun h2 => ?_⟩
      · rcases a with a | a
        · left
          rw [e1, List.take_succ_cons, sumZ]
          omega
        · right
          simp only [List.length_cons]
          omega
      · by_cases h3 : atG tot (s + x) (k + 1) r = k + 1 + 1
        · rw [h3, show k + 1 + 1 - k - 1 = 1 by omega]
          simp only [List.take_succ_cons, List.take_zero, sumZ]
          omega
        · have e2 : atG tot (s + x) (k + 1) r - k - 1 = (atG tot (s + x) (k + 1) r - (k + 1) - 1) + 1 := by omega
          by_cases h4 : atG tot (s + x) (k + 1) r = k + 1
          · omega
          · have := b (by omega)
            rw [e2, List.take_succ_cons, sumZ]
            omega
end Go.VI

set_option linter.unusedVariables false
set_option linter.unusedSimpArgs false
set_option maxRecDepth 100000
namespace Go.VI
attribute [local congr] AW_congr OW_congr DW_congr NW_congr VW_congr GW_congr PW_congr KW_congr ite_congr' GV_congr CV_congr
theorem VW_appz {ft : FT} {e : Env} {H : Heap} {nid : Nat} {K : AV → Heap → Prop} (a b : Nat) (z : List AV) (x y : Operand) : VW ft nid e H (.appz a b z x y) K ↔ PW (opS nid e H (.appz a b z x y)) K := Iff.rfl
theorem VW_cap {ft : FT} {e : Env} {H : Heap} {nid : Nat} {K : AV → Heap → Prop} (x : Operand) : VW ft nid e H (.cap x) K ↔ PW (opS nid e H (.cap x)) K := Iff.rfl
theorem slice_sl0 {H : Heap} {id m sz : Nat} {rs : List (List AV)} (hg : H.get id = some (.row false sz rs)) (hm : m ≤ rs.length) : sliceA H sz (.sl id 0 m) none (some 0) none = some (.sl id 0 0) := by
  unfold sliceA boundsS
  simp [hg, hm]
theorem slice_nil0 (H : Heap) (sz : Nat) : sliceA H sz (.sc (.slice none 0 0)) none (some 0) none = some (.sc (.slice none 0 0)) := by
  unfold sliceA boundsA
  simp
def gzI : List AV := [.sc (.slice none 0 0), .sc (.slice none 0 0), .sc (.int .i64 0), .sc (.int .i64 0)]
def gzK : List AV := [.sc (.slice none 0 0), .sc (.int .i64 0)]
theorem allSz_rep {sz n : Nat} {z : List AV} (h : z.length = sz) : allSz sz (List.replicate n z) = true := by simp [allSz, h]
theorem s1470 (H : Heap) : callL ft (.fn (.func 147) [] []) [.sc (.slice none 0 0), .sc (.int .i64 0)] H = some (.sc (.slice none 0 0), H) := by
  refine call_o (H1 := H) rfl (by simp) ?_
  unfold c147 r147 RetO
  have w0 : IntKind.i64.wrap (0 - 0) = 0 := rfl
  simp only [↓vp, vq0, vq1, vq2, vq3, vr0, vr1, vr2, vr3, vr4, vr5, vr6, vr7, vr8, vr9, vr10, vr11, vr12, vr13, vr14, vr15, vr16, vr17, vr18, vr19, vr20, vr21, vr22, vr23, vr24, vr25, vr26, vr27, vr28, vr29, vr30, vr31, vr32, vr33, vr34, opS, fpS, okP, pack, nAl, allocA, shId, leaves, fillA, fillR, splice, Nat.reduceLT, Nat.reduceEqDiff, Nat.reduceLeDiff, Nat.reduceAdd, Nat.reduceSub, Nat.reduceMul, Int.reduceBEq, Int.reduceBNe, Int.reduceLT, Int.reduceLE, Int.reduceEq, reduceIte, reduceCtorEq, da, int, boolA, VW_appz, VW_cap, opI0, opI1, w0]
  exact ⟨rfl, hx_nil _⟩
theorem s1471 {m : Nat} (h0 : 0 < m) (hm : m ≤ 4000) (H : Heap) : callL ft (.fn (.func 147) [] []) [.sc (.slice none 0 0), int m] H = some (.sl H.next 0 0, hx H [.row false 4 (List.replicate m gzI)]) := by
  refine call_o rfl (by simp) ?_
  unfold c147 r147 RetO
  have w0 : IntKind.i64.wrap (0 - 0) = 0 := rfl
  have w1 : IntKind.i64.wrap ((m : Int) - 0) = (m : Int) := by rw [wrap_i64 (by omega)]; omega
  have g0 : ((m : Int) < 0) = False := eq_false (by omega)
  have g1 : ((0 : Int) < m) = True := eq_true (by omega)
  have g2 : (m = 0) = False := eq_false (by omega)
  have d2 : (m * 64 ≤ 140737488355328) = True := eq_true (by omega)
  have d3 : ((0 : Int) ≤ m) = True := eq_true (by omega)
  have ha : allSz 4 (List.replicate m gzI) = true := allSz_rep rfl
  have hs : sliceA (hx H [.row false 4 (List.replicate m gzI)]) 4 (.sl H.next 0 m) none (some 0) none = some (.sl H.next 0 0) := slice_sl0 (by rw [hx_get0]; rfl) (by simp)
  unfold gzI at *
  simp only [↓vp, vq0, vq1, vq2, vq3, vr0, vr1, vr2, vr3, vr4, vr5, vr6, vr7, vr8, vr9, vr10, vr11, vr12, vr13, vr14, vr15, vr16, vr17, vr18, vr19, vr20, vr21, vr22, vr23, vr24, vr25, vr26, vr27, vr28, vr29, vr30, vr31, vr32, vr33, vr34, opS, fpS, okP, pack, nAl, allocA, shId, leaves, fillA, fillR, splice, Nat.reduceLT, Nat.reduceEqDiff, Nat.reduceLeDiff, Nat.reduceAdd, Nat.reduceSub, Nat.reduceMul, Int.reduceBEq, Int.reduceBNe, Int.reduceLT, Int.reduceLE, Int.reduceEq, reduceIte, reduceCtorEq, da, int, boolA, VW_appz, VW_cap, opI0, opI1, w0, w1, g0, g1, g2, slice_nil0, Int.toNat_natCast, List.length_replicate, ha, d2, d3, hs]
  try rfl
theorem concI {A B : List ItemM} {args : List AV} {H H1 : Heap} (hz : frzCells H args = some ([.lst [[encI A], [encI B]]], H1)) (ha : A.length ≤ 2000) (hb : B.length ≤ 2000) : callL ft (.fn (.func 93) [] []) args H = some (encI (A ++ B), H1) := by
  refine call_p rfl (by simpa using hz) (by simp) ?_
  unfold c93 r93
  have i0 : ∀ H, iaddrA H none 1 (.lst [[encI A], [encI B]]) 0 = some (.pim [[encI A], [encI B]] 0 0) := fun _ => rfl
  have i1 : ∀ H, iaddrA H none 1 (.lst [[encI A], [encI B]]) 1 = some (.pim [[encI A], [encI B]] 1 0) := fun _ => rfl
  have c0 : ∀ H, cellsAt H (.pim [[encI A], [encI B]] 0 0) 1 = some [encI A] := fun _ => rfl
  have c1 : ∀ H, cellsAt H (.pim [[encI A], [encI B]] 1 0) 1 = some [encI B] := fun _ => rfl
  have hl : ∀ H, lenV H 0 (.lst [[encI A], [encI B]]) = some (.sc (.int .i64 2), H) := fun _ => rfl
  have w0 : IntKind.i64.wrap (0 + 1) = 1 := rfl
  have w1 : IntKind.i64.wrap (1 + 1) = 2 := rfl
  have w2 : IntKind.i64.wrap (0 + (A.length : Int)) = A.length := by rw [wrap_i64 (by omega)]; omega
  have w3 : IntKind.i64.wrap ((A.length : Int) + B.length) = ((A.length + B.length : Nat) : Int) := by rw [wrap_i64 (by omega)]; omega
  have g0 : ((A.length : Int) < 0) = False := eq_false (by omega)
  have g1 : (((A.length + B.length : Nat) : Int) < 0) = False := eq_false (by omega)
  simp only [↓vp, vq0, vq1, vq2, vq3, vr0, vr1, vr2, vr3, vr4, vr5, vr6, vr7, vr8, vr9, vr10, vr11, vr12, vr13, vr14, vr15, vr16, vr17, vr18, vr19, vr20, vr21, vr22, vr23, vr24, vr25, vr26, vr27, vr28, vr29, vr30, vr31, vr32, vr33, vr34, opS, fpS, okP, pack, nAl, allocA, shId, leaves, fillA, fillR, splice, Nat.reduceLT, Nat.reduceEqDiff, Nat.reduceLeDiff, Nat.reduceAdd, Nat.reduceSub, Nat.reduceMul, Int.reduceBEq, Int.reduceBNe, Int.reduceLT, Int.reduceLE, Int.reduceEq, reduceIte, reduceCtorEq, da, int, boolA, hl]
  rw [AW_loop]
  unfold c93L0
  simp only [↓vp, vq0, vq1, vq2, vq3, vr0, vr1, vr2, vr3, vr4, vr5, vr6, vr7, vr8, vr9, vr10, vr11, vr12, vr13, vr14, vr15, vr16, vr17, vr18, vr19, vr20, vr21, vr22, vr23, vr24, vr25, vr26, vr27, vr28, vr29, vr30, vr31, vr32, vr33, vr34, opS, fpS, okP, pack, nAl, allocA, shId, leaves, fillA, fillR, splice, Nat.reduceLT, Nat.reduceEqDiff, Nat.reduceLeDiff, Nat.reduceAdd, Nat.reduceSub, Nat.reduceMul, Int.reduceBEq, Int.reduceBNe, Int.reduceLT, Int.reduceLE, Int.reduceEq, reduceIte, reduceCtorEq, da, int, boolA, hl, i0, c0, w0, w2, g0]
  rw [AW_loop]
  simp only [↓vp, vq0, vq1, vq2, vq3, vr0, vr1, vr2, vr3, vr4, vr5, vr6, vr7, vr8, vr9, vr10, vr11, vr12, vr13, vr14, vr15, vr16, vr17, vr18, vr19, vr20, vr21, vr22, vr23, vr24, vr25, vr26, vr27, vr28, vr29, vr30, vr31, vr32, vr33, vr34, opS, fpS, okP, pack, nAl, allocA, shId, leaves, fillA, fillR, splice, Nat.reduceLT, Nat.reduceEqDiff, Nat.reduceLeDiff, Nat.reduceAdd, Nat.reduceSub, Nat.reduceMul, Int.reduceBEq, Int.reduceBNe, Int.reduceLT, Int.reduceLE, Int.reduceEq, reduceIte, reduceCtorEq, da, int, boolA, hl, i1, c1, w1, w3, g1]
  rw [AW_loop]
  simp only [↓vp, vq0, vq1, vq2, vq3, vr0, vr1, vr2, vr3, vr4, vr5, vr6, vr7, vr8, vr9, vr10, vr11, vr12, vr13, vr14, vr15, vr16, vr17, vr18, vr19, vr20, vr21, vr22, vr23, vr24, vr25, vr26, vr27, vr28, vr29, vr30, vr31, vr32, vr33, vr34, opS, fpS, okP, pack, nAl, allocA, shId, leaves, fillA, fillR, splice, Nat.reduceLT, Nat.reduceEqDiff, Nat.reduceLeDiff, Nat.reduceAdd, Nat.reduceSub, Nat.reduceMul, Int.reduceBEq, Int.reduceBNe, Int.reduceLT, Int.reduceLE, Int.reduceEq, reduceIte, reduceCtorEq, da, int, boolA]
  unfold c93R3
  by_cases hm : A.length + B.length = 0
  · obtain rfl : A = [] := List.eq_nil_of_length_eq_zero (by omega)
    obtain rfl : B = [] := List.eq_nil_of_length_eq_zero (by omega)
    have kg := fun K L Q => @KW_of ft _ _ _ Q _ _ (s1470 (hx K L))
    have r0 : ∀ H, rowsOf H (encI []) = some [] := fun _ => rfl
    simp only [↓vp, vq0, vq1, vq2, vq3, vr0, vr1, vr2, vr3, vr4, vr5, vr6, vr7, vr8, vr9, vr10, vr11, vr12, vr13, vr14, vr15, vr16, vr17, vr18, vr19, vr20, vr21, vr22, vr23, vr24, vr25, vr26, vr27, vr28, vr29, vr30, vr31, vr32, vr33, vr34, opS, fpS, okP, pack, nAl, allocA, shId, leaves, fillA, fillR, splice, Nat.reduceLT, Nat.reduceEqDiff, Nat.reduceLeDiff, Nat.reduceAdd, Nat.reduceSub, Nat.reduceMul, Int.reduceBEq, Int.reduceBNe, Int.reduceLT, Int.reduceLE, Int.reduceEq, reduceIte, reduceCtorEq, da, int, boolA, List.length_nil, Nat.add_zero, Int.natCast_zero, kg, hl, r0]
    rw [AW_loop]
    unfold c93L1
    simp only [↓vp, vq0, vq1, vq2, vq3, vr0, vr1, vr2, vr3, vr4, vr5, vr6, vr7, vr8, vr9, vr10, vr11, vr12, vr13, vr14, vr15, vr16, vr17, vr18, vr19, vr20, vr21, vr22, vr23, vr24, vr25, vr26, vr27, vr28, vr29, vr30, vr31, vr32, vr33, vr34, opS, fpS, okP, pack, nAl, allocA, shId, leaves, fillA, fillR, splice, Nat.reduceLT, Nat.reduceEqDiff, Nat.reduceLeDiff, Nat.reduceAdd, Nat.reduceSub, Nat.reduceMul, Int.reduceBEq, Int.reduceBNe, Int.reduceLT, Int.reduceLE, Int.reduceEq, reduceIte, reduceCtorEq, da, int, boolA, List.length_nil, Nat.add_zero, Int.natCast_zero, kg, hl, i0, c0, w0, r0]
    rw [AW_loop]
    simp only [↓vp, vq0, vq1, vq2, vq3, vr0, vr1, vr2, vr3, vr4, vr5, vr6, vr7, vr8, vr9, vr10, vr11, vr12, vr13, vr14, vr15, vr16, vr17, vr18, vr19, vr20, vr21, vr22, vr23, vr24, vr25, vr26, vr27, vr28, vr29, vr30, vr31, vr32, vr33, vr34, opS, fpS, okP, pack, nAl, allocA, shId, leaves, fillA, fillR, splice, Nat.reduceLT, Nat.reduceEqDiff, Nat.reduceLeDiff, Nat.reduceAdd, Nat.reduceSub, Nat.reduceMul, Int.reduceBEq, Int.reduceBNe, Int.reduceLT, Int.reduceLE, Int.reduceEq, reduceIte, reduceCtorEq, da, int, boolA, List.length_nil, Nat.add_zero, Int.natCast_zero, kg, hl, i1, c1, w1, r0]
    rw [AW_loop]
    simp only [↓vp, vq0, vq1, vq2, vq3, vr0, vr1, vr2, vr3, vr4, vr5, vr6, vr7, vr8, vr9, vr10, vr11, vr12, vr13, vr14, vr15, vr16, vr17, vr18, vr19, vr20, vr21, vr22, vr23, vr24, vr25, vr26, vr27, vr28, vr29, vr30, vr31, vr32, vr33, vr34, opS, fpS, okP, pack, nAl, allocA, shId, leaves, fillA, fillR, splice, Nat.reduceLT, Nat.reduceEqDiff, Nat.reduceLeDiff, Nat.reduceAdd, Nat.reduceSub, Nat.reduceMul, Int.reduceBEq, Int.reduceBNe, Int.reduceLT, Int.reduceLE, Int.reduceEq, reduceIte, reduceCtorEq, da, int, boolA, RetP_go, resT, resC, resN, retV1, retV2, retV3, retV0, frzFZ, takeM, Option.some.injEq, c93R2]
    rfl
  · have kg := fun K L Q => @KW_of ft _ _ _ Q _ _ (s1471 (m := A.length + B.length) (by omega) (by omega) (hx K L))
    have rI : ∀ H l, rowsOf H (encI l) = some (l.map itemC) := fun _ _ => rfl
    have e0 : (List.replicate (A.length + B.length) gzI).length = A.length + B.length := by simp
    have e1 : List.drop A.length (List.replicate (A.length + B.length) gzI) = List.replicate B.length gzI := by simp
    have e2 : (A.map itemC ++ List.replicate B.length gzI).length = A.length + B.length := by simp
    have e3 : List.take A.length (A.map itemC ++ List.replicate B.length gzI) = A.map itemC := by simp
    have e4 : List.drop (A.length + B.length) (A.map itemC ++ List.replicate B.length gzI) = [] := List.drop_eq_nil_of_le (by simp)
    have e5 : (A.map itemC ++ B.map itemC).length = A.length + B.length := by simp
    have e6 : List.take (A.length + B.length) (A.map itemC ++ B.map itemC) = (A ++ B).map itemC := by rw [← e5, List.take_length, List.map_append]
    have d1 : (A.length * 64 ≤ 140737488355328) = True := eq_true (by omega)
    have d2 : ((A.length + B.length) * 64 ≤ 140737488355328) = True := eq_true (by omega)
    simp only [int] at kg
    simp only [↓vp, vq0, vq1, vq2, vq3, vr0, vr1, vr2, vr3, vr4, vr5, vr6, vr7, vr8, vr9, vr10, vr11, vr12, vr13, vr14, vr15, vr16, vr17, vr18, vr19, vr20, vr21, vr22, vr23, vr24, vr25, vr26, vr27, vr28, vr29, vr30, vr31, vr32, vr33, vr34, opS, fpS, okP, pack, nAl, allocA, shId, leaves, fillA, fillR, splice, Nat.reduceLT, Nat.reduceEqDiff, Nat.reduceLeDiff, Nat.reduceAdd, Nat.reduceSub, Nat.reduceMul, Int.reduceBEq, Int.reduceBNe, Int.reduceLT, Int.reduceLE, Int.reduceEq, reduceIte, reduceCtorEq, da, int, boolA, kg, hl, hxe_nx, hx_hx]
    rw [AW_loop]
    unfold c93L1
    simp only [↓vp, vq0, vq1, vq2, vq3, vr0, vr1, vr2, vr3, vr4, vr5, vr6, vr7, vr8, vr9, vr10, vr11, vr12, vr13, vr14, vr15, vr16, vr17, vr18, vr19, vr20, vr21, vr22, vr23, vr24, vr25, vr26, vr27, vr28, vr29, vr30, vr31, vr32, vr33, vr34, opS, fpS, okP, pack, nAl, allocA, shId, leaves, fillA, fillR, splice, Nat.reduceLT, Nat.reduceEqDiff, Nat.reduceLeDiff, Nat.reduceAdd, Nat.reduceSub, Nat.reduceMul, Int.reduceBEq, Int.reduceBNe, Int.reduceLT, Int.reduceLE, Int.reduceEq, reduceIte, reduceCtorEq, da, int, boolA, hl, i0, c0, w0, rI, e0, e1, d1, allI, Nat.zero_le, Nat.le_add_right]
    rw [AW_loop]
    simp only [↓vp, vq0, vq1, vq2, vq3, vr0, vr1, vr2, vr3, vr4, vr5, vr6, vr7, vr8, vr9, vr10, vr11, vr12, vr13, vr14, vr15, vr16, vr17, vr18, vr19, vr20, vr21, vr22, vr23, vr24, vr25, vr26, vr27, vr28, vr29, vr30, vr31, vr32, vr33, vr34, opS, fpS, okP, pack, nAl, allocA, shId, leaves, fillA, fillR, splice, Nat.reduceLT, Nat.reduceEqDiff, Nat.reduceLeDiff, Nat.reduceAdd, Nat.reduceSub, Nat.reduceMul, Int.reduceBEq, Int.reduceBNe, Int.reduceLT, Int.reduceLE, Int.reduceEq, reduceIte, reduceCtorEq, da, int, boolA, hl, i1, c1, w1, rI, e2, e3, e4, d2, allI, Nat.le_add_right]
    rw [AW_loop]
    simp only [↓vp, vq0, vq1, vq2, vq3, vr0, vr1, vr2, vr3, vr4, vr5, vr6, vr7, vr8, vr9, vr10, vr11, vr12, vr13, vr14, vr15, vr16, vr17, vr18, vr19, vr20, vr21, vr22, vr23, vr24, vr25, vr26, vr27, vr28, vr29, vr30, vr31, vr32, vr33, vr34, opS, fpS, okP, pack, nAl, allocA, shId, leaves, fillA, fillR, splice, Nat.reduceLT, Nat.reduceEqDiff, Nat.reduceLeDiff, Nat.reduceAdd, Nat.reduceSub, Nat.reduceMul, Int.reduceBEq, Int.reduceBNe, Int.reduceLT, Int.reduceLE, Int.reduceEq, reduceIte, reduceCtorEq, da, int, boolA, RetP_go, resT, resC, resN, retV1, retV2, retV3, retV0, frzFZ, takeM, Option.some.injEq, c93R2, e5, e6]
    try rfl
theorem s1480 (H : Heap) : callL ft (.fn (.func 148) [] []) [.sc (.slice none 0 0), .sc (.int .i64 0)] H = some (.sc (.slice none 0 0), H) := by
  refine call_o (H1 := H) rfl (by simp) ?_
  unfold c148 r148 RetO
  have w0 : IntKind.i64.wrap (0 - 0) = 0 := rfl
  simp only [↓vp, vq0, vq1, vq2, vq3, vr0, vr1, vr2, vr3, vr4, vr5, vr6, vr7, vr8, vr9, vr10, vr11, vr12, vr13, vr14, vr15, vr16, vr17, vr18, vr19, vr20, vr21, vr22, vr23, vr24, vr25, vr26, vr27, vr28, vr29, vr30, vr31, vr32, vr33, vr34, opS, fpS, okP, pack, nAl, allocA, shId, leaves, fillA, fillR, splice, Nat.reduceLT, Nat.reduceEqDiff, Nat.reduceLeDiff, Nat.reduceAdd, Nat.reduceSub, Nat.reduceMul, Int.reduceBEq, Int.reduceBNe, Int.reduceLT, Int.reduceLE, Int.reduceEq, reduceIte, reduceCtorEq, da, int, boolA, VW_appz, VW_cap, opI0, opI1, w0]
  exact ⟨rfl, hx_nil _⟩
theorem s1481 {m : Nat} (h0 : 0 < m) (hm : m ≤ 4000) (H : Heap) : callL ft (.fn (.func 148) [] []) [.sc (.slice none 0 0), int m] H = some (.sl H.next 0 0, hx H [.row false 2 (List.replicate m gzK)]) := by
  refine call_o rfl (by simp) ?_
  unfold c148 r148 RetO
  have w0 : IntKind.i64.wrap (0 - 0) = 0 := rfl
  have w1 : IntKind.i64.wrap ((m : Int) - 0) = (m : Int) := by rw [wrap_i64 (by omega)]; omega
  have g0 : ((m : Int) < 0) = False := eq_false (by omega)
  have g1 : ((0 : Int) < m) = True := eq_true (by omega)
  have g2 : (m = 0) = False := eq_false (by omega)
  have d2 : (m * 32 ≤ 140737488355328) = True := eq_true (by omega)
  have d3 : ((0 : Int) ≤ m) = True := eq_true (by omega)
  have ha : allSz 2 (List.replicate m gzK) = true := allSz_rep rfl
  have hs : sliceA (hx H [.row false 2 (List.replicate m gzK)]) 2 (.sl H.next 0 m) none (some 0) none = some (.sl H.next 0 0) := slice_sl0 (by rw [hx_get0]; rfl) (by simp)
  unfold gzK at *
  simp only [↓vp, vq0, vq1, vq2, vq3, vr0, vr1, vr2, vr3, vr4, vr5, vr6, vr7, vr8, vr9, vr10, vr11, vr12, vr13, vr14, vr15, vr16, vr17, vr18, vr19, vr20, vr21, vr22, vr23, vr24, vr25, vr26, vr27, vr28, vr29, vr30, vr31, vr32, vr33, vr34, opS, fpS, okP, pack, nAl, allocA, shId, leaves, fillA, fillR, splice, Nat.reduceLT, Nat.reduceEqDiff, Nat.reduceLeDiff, Nat.reduceAdd, Nat.reduceSub, Nat.reduceMul, Int.reduceBEq, Int.reduceBNe, Int.reduceLT, Int.reduceLE, Int.reduceEq, reduceIte, reduceCtorEq, da, int, boolA, VW_appz, VW_cap, opI0, opI1, w0, w1, g0, g1, g2, slice_nil0, Int.toNat_natCast, List.length_replicate, ha, d2, d3, hs]
  try rfl
theorem concK {A B : List KidM} {args : List AV} {H H1 : Heap} (hz : frzCells H args = some ([.lst [[encK A], [encK B]]], H1)) (ha : A.length ≤ 2000) (hb : B.length ≤ 2000) : callL ft (.fn (.func 94) [] []) args H = some (encK (A ++ B), H1) := by
  refine call_p rfl (by simpa using hz) (by simp) ?_
  unfold c94 r94
  have i0 : ∀ H, iaddrA H none 1 (.lst [[encK A], [encK B]]) 0 = some (.pim [[encK A], [encK B]] 0 0) := fun _ => rfl
  have i1 : ∀ H, iaddrA H none 1 (.lst [[encK A], [encK B]]) 1 = some (.pim [[encK A], [encK B]] 1 0) := fun _ => rfl
  have c0 : ∀ H, cellsAt H (.pim [[encK A], [encK B]] 0 0) 1 = some [encK A] := fun _ => rfl
  have c1 : ∀ H, cellsAt H (.pim [[encK A], [encK B]] 1 0) 1 = some [encK B] := fun _ => rfl
  have hl : ∀ H, lenV H 0 (.lst [[encK A], [encK B]]) = some (.sc (.int .i64 2), H) := fun _ => rfl
  have w0 : IntKind.i64.wrap (0 + 1) = 1 := rfl
  have w1 : IntKind.i64.wrap (1 + 1) = 2 := rfl
  have w2 : IntKind.i64.wrap (0 + (A.length : Int)) = A.length := by rw [wrap_i64 (by omega)]; omega
  have w3 : IntKind.i64.wrap ((A.length : Int) + B.length) = ((A.length + B.length : Nat) : Int) := by rw [wrap_i64 (by omega)]; omega
  have g0 : ((A.length : Int) < 0) = False := eq_false (by omega)
  have g1 : (((A.length + B.length : Nat) : Int) < 0) = False := eq_false (by omega)
  simp only [↓vp, vq0, vq1, vq2, vq3, vr0, vr1, vr2, vr3, vr4, vr5, vr6, vr7, vr8, vr9, vr10, vr11, vr12, vr13, vr14, vr15, vr16, vr17, vr18, vr19, vr20, vr21, vr22, vr23, vr24, vr25, vr26, vr27, vr28, vr29, vr30, vr31, vr32, vr33, vr34, opS, fpS, okP, pack, nAl, allocA, shId, leaves, fillA, fillR, splice, Nat.reduceLT, Nat.reduceEqDiff, Nat.reduceLeDiff, Nat.reduceAdd, Nat.reduceSub, Nat.reduceMul, Int.reduceBEq, Int.reduceBNe, Int.reduceLT, Int.reduceLE, Int.reduceEq, reduceIte, reduceCtorEq, da, int, boolA, hl]
  rw [AW_loop]
  unfold c94L0
  simp only [↓vp, vq0, vq1, vq2, vq3, vr0, vr1, vr2, vr3, vr4, vr5, vr6, vr7, vr8, vr9, vr10, vr11, vr12, vr13, vr14, vr15, vr16, vr17, vr18, vr19, vr20, vr21, vr22, vr23, vr24, vr25, vr26, vr27, vr28, vr29, vr30, vr31, vr32, vr33, vr34, opS, fpS, okP, pack, nAl, allocA, shId, leaves, fillA, fillR, splice, Nat.reduceLT, Nat.reduceEqDiff, Nat.reduceLeDiff, Nat.reduceAdd, Nat.reduceSub, Nat.reduceMul, Int.reduceBEq, Int.reduceBNe, Int.reduceLT, Int.reduceLE, Int.reduceEq, reduceIte, reduceCtorEq, da, int, boolA, hl, i0, c0, w0, w2, g0]
  rw [AW_loop]
  simp only [↓vp, vq0, vq1, vq2, vq3, vr0, vr1, vr2, vr3, vr4, vr5, vr6, vr7, vr8, vr9, vr10, vr11, vr12, vr13, vr14, vr15, vr16, vr17, vr18, vr19, vr20, vr21, vr22, vr23, vr24, vr25, vr26, vr27, vr28, vr29, vr30, vr31, vr32, vr33, vr34, opS, fpS, okP, pack, nAl, allocA, shId, leaves, fillA, fillR, splice, Nat.reduceLT, Nat.reduceEqDiff, Nat.reduceLeDiff, Nat.reduceAdd, Nat.reduceSub, Nat.reduceMul, Int.reduceBEq, Int.reduceBNe, Int.reduceLT, Int.reduceLE, Int.reduceEq, reduceIte, reduceCtorEq, da, int, boolA, hl, i1, c1, w1, w3, g1]
  rw [AW_loop]
  simp only [↓vp, vq0, vq1, vq2, vq3, vr0, vr1, vr2, vr3, vr4, vr5, vr6, vr7, vr8, vr9, vr10, vr11, vr12, vr13, vr14, vr15, vr16, vr17, vr18, vr19, vr20, vr21, vr22, vr23, vr24, vr25, vr26, vr27, vr28, vr29, vr30, vr31, vr32, vr33, vr34, opS, fpS, okP, pack, nAl, allocA, shId, leaves, fillA, fillR, splice, Nat.reduceLT, Nat.reduceEqDiff, Nat.reduceLeDiff, Nat.reduceAdd, Nat.reduceSub, Nat.reduceMul, Int.reduceBEq, Int.reduceBNe, Int.reduceLT, Int.reduceLE, Int.reduceEq, reduceIte, reduceCtorEq, da, int, boolA]
  unfold c94R3
  by_cases hm : A.length + B.length = 0
  · obtain rfl : A = [] := List.eq_nil_of_length_eq_zero (by omega)
    obtain rfl : B = [] := List.eq_nil_of_length_eq_zero (by omega)
    have kg := fun K L Q => @KW_of ft _ _ _ Q _ _ (s1480 (hx K L))
    have r0 : ∀ H, rowsOf H (encK []) = some [] := fun _ => rfl
    simp only [↓vp, vq0, vq1, vq2, vq3, vr0, vr1, vr2, vr3, vr4, vr5, vr6, vr7, vr8, vr9, vr10, vr11, vr12, vr13, vr14, vr15, vr16, vr17, vr18, vr19, vr20, vr21, vr22, vr23, vr24, vr25, vr26, vr27, vr28, vr29, vr30, vr31, vr32, vr33, vr34, opS, fpS, okP, pack, nAl, allocA, shId, leaves, fillA, fillR, splice, Nat.reduceLT, Nat.reduceEqDiff, Nat.reduceLeDiff, Nat.reduceAdd, Nat.reduceSub, Nat.reduceMul, Int.reduceBEq, Int.reduceBNe, Int.reduceLT, Int.reduceLE, Int.reduceEq, reduceIte, reduceCtorEq, da, int, boolA, List.length_nil, Nat.add_zero, Int.natCast_zero, kg, hl, r0]
    rw [AW_loop]
    unfold c94L1
    simp only [↓vp, vq0, vq1, vq2, vq3, vr0, vr1, vr2, vr3, vr4, vr5, vr6, vr7, vr8, vr9, vr10, vr11, vr12, vr13, vr14, vr15, vr16, vr17, vr18, vr19, vr20, vr21, vr22, vr23, vr24, vr25, vr26, vr27, vr28, vr29, vr30, vr31, vr32, vr33, vr34, opS, fpS, okP, pack, nAl, allocA, shId, leaves, fillA, fillR, splice, Nat.reduceLT, Nat.reduceEqDiff, Nat.reduceLeDiff, Nat.reduceAdd, Nat.reduceSub, Nat.reduceMul, Int.reduceBEq, Int.reduceBNe, Int.reduceLT, Int.reduceLE, Int.reduceEq, reduceIte, reduceCtorEq, da, int, boolA, List.length_nil, Nat.add_zero, Int.natCast_zero, kg, hl, i0, c0, w0, r0]
    rw [AW_loop]
    simp only [↓vp, vq0, vq1, vq2, vq3, vr0, vr1, vr2, vr3, vr4, vr5, vr6, vr7, vr8, vr9, vr10, vr11, vr12, vr13, vr14, vr15, vr16, vr17, vr18, vr19, vr20, vr21, vr22, vr23, vr24, vr25, vr26, vr27, vr28, vr29, vr30, vr31, vr32, vr33, vr34, opS, fpS, okP, pack, nAl, allocA, shId, leaves, fillA, fillR, splice, Nat.reduceLT, Nat.reduceEqDiff, Nat.reduceLeDiff, Nat.reduceAdd, Nat.reduceSub, Nat.reduceMul, Int.reduceBEq, Int.reduceBNe, Int.reduceLT, Int.reduceLE, Int.reduceEq, reduceIte, reduceCtorEq, da, int, boolA, List.length_nil, Nat.add_zero, Int.natCast_zero, kg, hl, i1, c1, w1, r0]
    rw [AW_loop]
    simp only [↓vp, vq0, vq1, vq2, vq3, vr0, vr1, vr2, vr3, vr4, vr5, vr6, vr7, vr8, vr9, vr10, vr11, vr12, vr13, vr14, vr15, vr16, vr17, vr18, vr19, vr20, vr21, vr22, vr23, vr24, vr25, vr26, vr27, vr28, vr29, vr30, vr31, vr32, vr33, vr34, opS, fpS, okP, pack, nAl, allocA, shId, leaves, fillA, fillR, splice, Nat.reduceLT, Nat.reduceEqDiff, Nat.reduceLeDiff, Nat.reduceAdd, Nat.reduceSub, Nat.reduceMul, Int.reduceBEq, Int.reduceBNe, Int.reduceLT, Int.reduceLE, Int.reduceEq, reduceIte, reduceCtorEq, da, int, boolA, RetP_go, resT, resC, resN, retV1, retV2, retV3, retV0, frzFZ, takeM, Option.some.injEq, c94R2]
    rfl
  · have kg := fun K L Q => @KW_of ft _ _ _ Q _ _ (s1481 (m := A.length + B.length) (by omega) (by omega) (hx K L))
    have rI : ∀ H l, rowsOf H (encK l) = some (l.map kidC) := fun _ _ => rfl
    have e0 : (List.replicate (A.length + B.length) gzK).length = A.length + B.length := by simp
    have e1 : List.drop A.length (List.replicate (A.length + B.length) gzK) = List.replicate B.length gzK := by simp
    have e2 : (A.map kidC ++ List.replicate B.length gzK).length = A.length + B.length := by simp
    have e3 : List.take A.length (A.map kidC ++ List.replicate B.length gzK) = A.map kidC := by simp
    have e4 : List.drop (A.length + B.length) (A.map kidC ++ List.replicate B.length gzK) = [] := List.drop_eq_nil_of_le (by simp)
    have e5 : (A.map kidC ++ B.map kidC).length = A.length + B.length := by simp
    have e6 : List.take (A.length + B.length) (A.map kidC ++ B.map kidC) = (A ++ B).map kidC := by rw [← e5, List.take_length, List.map_append]
    have d1 : (A.length * 32 ≤ 140737488355328) = True := eq_true (by omega)
    have d2 : ((A.length + B.length) * 32 ≤ 140737488355328) = True := eq_true (by omega)
    simp only [int] at kg
    simp only [↓vp, vq0, vq1, vq2, vq3, vr0, vr1, vr2, vr3, vr4, vr5, vr6, vr7, vr8, vr9, vr10, vr11, vr12, vr13, vr14, vr15, vr16, vr17, vr18, vr19, vr20, vr21, vr22, vr23, vr24, vr25, vr26, vr27, vr28, vr29, vr30, vr31, vr32, vr33, vr34, opS, fpS, okP, pack, nAl, allocA, shId, leaves, fillA, fillR, splice, Nat.reduceLT, Nat.reduceEqDiff, Nat.reduceLeDiff, Nat.reduceAdd, Nat.reduceSub, Nat.reduceMul, Int.reduceBEq, Int.reduceBNe, Int.reduceLT, Int.reduceLE, Int.reduceEq, reduceIte, reduceCtorEq, da, int, boolA, kg, hl, hxe_nx, hx_hx]
    rw [AW_loop]
    unfold c94L1
    simp only [↓vp, vq0, vq1, vq2, vq3, vr0, vr1, vr2, vr3, vr4, vr5, vr6, vr7, vr8, vr9, vr10, vr11, vr12, vr13, vr14, vr15, vr16, vr17, vr18, vr19, vr20, vr21, vr22, vr23, vr24, vr25, vr26, vr27, vr28, vr29, vr30, vr31, vr32, vr33, vr34, opS, fpS, okP, pack, nAl, allocA, shId, leaves, fillA, fillR, splice, Nat.reduceLT, Nat.reduceEqDiff, Nat.reduceLeDiff, Nat.reduceAdd, Nat.reduceSub, Nat.reduceMul, Int.reduceBEq, Int.reduceBNe, Int.reduceLT, Int.reduceLE, Int.reduceEq, reduceIte, reduceCtorEq, da, int, boolA, hl, i0, c0, w0, rI, e0, e1, d1, allK, Nat.zero_le, Nat.le_add_right]
    rw [AW_loop]
    simp only [↓vp, vq0, vq1, vq2, vq3, vr0, vr1, vr2, vr3, vr4, vr5, vr6, vr7, vr8, vr9, vr10, vr11, vr12, vr13, vr14, vr15, vr16, vr17, vr18, vr19, vr20, vr21, vr22, vr23, vr24, vr25, vr26, vr27, vr28, vr29, vr30, vr31, vr32, vr33, vr34, opS, fpS, okP, pack, nAl, allocA, shId, leaves, fillA, fillR, splice, Nat.reduceLT, Nat.reduceEqDiff, Nat.reduceLeDiff, Nat.reduceAdd, Nat.reduceSub, Nat.reduceMul, Int.reduceBEq, Int.reduceBNe, Int.reduceLT, Int.reduceLE, Int.reduceEq, reduceIte, reduceCtorEq, da, int, boolA, hl, i1, c1, w1, rI, e2, e3, e4, d2, allK, Nat.le_add_right]
    rw [AW_loop]
    simp only [↓vp, vq0, vq1, vq2, vq3, vr0, vr1, vr2, vr3, vr4, vr5, vr6, vr7, vr8, vr9, vr10, vr11, vr12, vr13, vr14, vr15, vr16, vr17, vr18, vr19, vr20, vr21, vr22, vr23, vr24, vr25, vr26, vr27, vr28, vr29, vr30, vr31, vr32, vr33, vr34, opS, fpS, okP, pack, nAl, allocA, shId, leaves, fillA, fillR, splice, Nat.reduceLT, Nat.reduceEqDiff, Nat.reduceLeDiff, Nat.reduceAdd, Nat.reduceSub, Nat.reduceMul, Int.reduceBEq, Int.reduceBNe, Int.reduceLT, Int.reduceLE, Int.reduceEq, reduceIte, reduceCtorEq, da, int, boolA, RetP_go, resT, resC, resN, retV1, retV2, retV3, retV0, frzFZ, takeM, Option.some.injEq, c94R2, e5, e6]
    try rfl
end Go.VI

set_option linter.unusedVariables false
set_option linter.unusedSimpArgs false
set_option maxRecDepth 100000
namespace Go.VI
attribute [local congr] AW_congr OW_congr DW_congr NW_congr VW_congr GW_congr PW_congr KW_congr ite_congr' GV_congr CV_congr
theorem kcloK0 {L : List Blk} {Q : AV → Heap → Prop} : KW ft (.fn (.func 91) [] []) [encK []] (hx Heap.empty L) Q ↔ Q (encK []) (hx Heap.empty (L ++ [.dead])) := by
  refine k_prim (p := cloP 2 32) rfl ?_ ?_
  · show some (AV.lst [], (hx Heap.empty L).pad 1) = _
    rw [hx_pad]
    rfl
  · rw [hxe_nx, hxe_nx]
    simp
theorem frz_two {A B : AV} {L : List Blk} {id : Nat} (hL : L[id]? = some (.row false 1 [[A], [B]])) : frzCells (hx Heap.empty L) [.sl id 0 2] = some ([.lst [[A], [B]]], hx Heap.empty (L.set id (.row true 1 [[A], [B]]))) := by
  rw [frzCells_eq, frzL_cons, frz_sl, hxe_get', hL]
  simp [frzL_nil, hxe_set]
theorem kconcI (A B : List ItemM) (ha : A.length ≤ 2000) (hb : B.length ≤ 2000) {L : List Blk} {id : Nat} (hL : L[id]? = some (.row false 1 [[encI A], [encI B]])) {Q : AV → Heap → Prop} :
    KW ft (.fn (.func 93) [] []) [.sl id 0 2] (hx Heap.empty L) Q ↔ Q (encI (A ++ B)) (hx Heap.empty (L.set id (.row true 1 [[encI A], [encI B]]))) := KW_of (concI (frz_two hL) ha hb)
theorem kconcK (A B : List KidM) (ha : A.length ≤ 2000) (hb : B.length ≤ 2000) {L : List Blk} {id : Nat} (hL : L[id]? = some (.row false 1 [[encK A], [encK B]])) {Q : AV → Heap → Prop} :
    KW ft (.fn (.func 94) [] []) [.sl id 0 2] (hx Heap.empty L) Q ↔ Q (encK (A ++ B)) (hx Heap.empty (L.set id (.row true 1 [[encK A], [encK B]]))) := KW_of (concK (frz_two hL) ha hb)
theorem s27 (a b : NodeM) (key : Bytes) (ha1 : a.items.length ≤ 1000) (ha2 : a.kids.length ≤ 1000) (hb1 : b.items.length ≤ 1000) (hb2 : b.kids.length ≤ 1000) (hk : key.length ≤ 1000000) (H : Heap) :
    callL ft (.fn (.func 27) [] []) [.agg (nodeC a), .agg (nodeC b), encB key] H = some (.agg (nodeC (joinM a b key)), H) := by
  refine call_p (as' := [.agg (nodeC a), .agg (nodeC b), encB key]) rfl rfl (by simp) ?_
  unfold c27 r27
  have pI : ∀ id, pureV ft (.fn (.func 93) [] []) [.sl id 0 2] = some (true, [id]) := fun _ => rfl
  have pK : ∀ id, pureV ft (.fn (.func 94) [] []) [.sl id 0 2] = some (true, [id]) := fun _ => rfl
  have sI : sidP [(0, encI a.items), (1, encI b.items)] = some [] := rfl
  have hj : nodeC (joinM a b key) = [.sc (.bool a.leaf), encI (a.items ++ b.items), encK (a.kids ++ withKey key b.kids)] := rfl
  rw [hj]
  cases hb : b.kids with
  | nil =>
    have kc := fun L Q => @kcloK0 L Q
    have sK : sidP [(0, encK a.kids), (1, encK [])] = some [] := rfl
    have k1 := fun L h Q => @kconcI a.items b.items (by omega) (by omega) L 4 h Q
    have k2 := fun L h Q => @kconcK a.kids [] (by omega) (by simp) L 5 h Q
    simp only [↓vp, vq0, vq1, vq2, vq3, vr0, vr1, vr2, vr3, vr4, vr5, vr6, vr7, vr8, vr9, vr10, vr11, vr12, vr13, vr14, vr15, vr16, vr17, vr18, vr19, vr20, vr21, vr22, vr23, vr24, vr25, vr26, vr27, vr28, vr29, vr30, vr31, vr32, vr33, vr34, opS, fpS, okP, pack, nAl, allocA, shId, leaves, fillA, fillR, splice, Nat.reduceLT, Nat.reduceEqDiff, Nat.reduceLeDiff, Nat.reduceAdd, Nat.reduceSub, Nat.reduceMul, Int.reduceBEq, Int.reduceBNe, Int.reduceLT, Int.reduceLE, Int.reduceEq, reduceIte, reduceCtorEq, da, int, boolA, hb]
    simp only [↓vp, vq0, vq1, vq2, vq3, vr0, vr1, vr2, vr3, vr4, vr5, vr6, vr7, vr8, vr9, vr10, vr11, vr12, vr13, vr14, vr15, vr16, vr17, vr18, vr19, vr20, vr21, vr22, vr23, vr24, vr25, vr26, vr27, vr28, vr29, vr30, vr31, vr32, vr33, vr34, opS, fpS, okP, pack, nAl, allocA, shId, leaves, fillA, fillR, splice, Nat.reduceLT, Nat.reduceEqDiff, Nat.reduceLeDiff, Nat.reduceAdd, Nat.reduceSub, Nat.reduceMul, Int.reduceBEq, Int.reduceBNe, Int.reduceLT, Int.reduceLE, Int.reduceEq, reduceIte, reduceCtorEq, da, int, boolA, RetP_go, resT, resC, resN, retV1, retV2, retV3, retV0, frzFZ, takeM, Option.some.injEq, nodeC, hb, kc, sI, sK, pI, pK, k1, k2, compat_ll, apt, nin, Int.natCast_zero]
    exact ⟨rfl, by simp [withKey]⟩
  | cons x r =>
    have kc := fun L Q => @kcloK (x :: r) (by simp) (by rw [← hb]; exact hb2) L Q
    have kb := fun K L Q => @kcloB key hk K L Q
    have sK : ∀ id n, sidP [(0, encK a.kids), (1, .sl id 0 n)] = some [id] := fun _ _ => rfl
    have k1 := fun L h Q => @kconcI a.items b.items (by omega) (by omega) L 5 h Q
    have k2 : ∀ L, L[6]? = some (.row false 1 [[encK a.kids], [.lst ((encB key :: List.drop 1 (kidC x)) :: r.map kidC)]]) → ∀ Q, KW ft (.fn (.func 94) [] []) [.sl 6 0 2] (hx Heap.empty L) Q ↔ Q (encK (a.kids ++ ⟨key, x.ref⟩ :: r)) (hx Heap.empty (L.set 6 (.row true 1 [[encK a.kids], [.lst ((encB key :: List.drop 1 (kidC x)) :: r.map kidC)]]))) := fun L h Q => @kconcK a.kids (⟨key, x.ref⟩ :: r) (by omega) (by rw [hb] at hb2; simp at hb2 ⊢; omega) L 6 h Q
    have g1 : ((0 : Int) < ((r.length + 1 : Nat) : Int)) = True := eq_true (by omega)
    simp only [↓vp, vq0, vq1, vq2, vq3, vr0, vr1, vr2, vr3, vr4, vr5, vr6, vr7, vr8, vr9, vr10, vr11, vr12, vr13, vr14, vr15, vr16, vr17, vr18, vr19, vr20, vr21, vr22, vr23, vr24, vr25, vr26, vr27, vr28, vr29, vr30, vr31, vr32, vr33, vr34, opS, fpS, okP, pack, nAl, allocA, shId, leaves, fillA, fillR, splice, Nat.reduceLT, Nat.reduceEqDiff, Nat.reduceLeDiff, Nat.reduceAdd, Nat.reduceSub, Nat.reduceMul, Int.reduceBEq, Int.reduceBNe, Int.reduceLT, Int.reduceLE, Int.reduceEq, reduceIte, reduceCtorEq, da, int, boolA, hb]
    simp only [↓vp, vq0, vq1, vq2, vq3, vr0, vr1, vr2, vr3, vr4, vr5, vr6, vr7, vr8, vr9, vr10, vr11, vr12, vr13, vr14, vr15, vr16, vr17, vr18, vr19, vr20, vr21, vr22, vr23, vr24, vr25, vr26, vr27, vr28, vr29, vr30, vr31, vr32, vr33, vr34, opS, fpS, okP, pack, nAl, allocA, shId, leaves, fillA, fillR, splice, Nat.reduceLT, Nat.reduceEqDiff, Nat.reduceLeDiff, Nat.reduceAdd, Nat.reduceSub, Nat.reduceMul, Int.reduceBEq, Int.reduceBNe, Int.reduceLT, Int.reduceLE, Int.reduceEq, reduceIte, reduceCtorEq, da, int, boolA, RetP_go, resT, resC, resN, retV1, retV2, retV3, retV0, frzFZ, takeM, Option.some.injEq, nodeC, hb, kc, kb, g1]
    rw [ia_sl0 rfl (by simp)]
    simp only [↓vp, vq0, vq1, vq2, vq3, vr0, vr1, vr2, vr3, vr4, vr5, vr6, vr7, vr8, vr9, vr10, vr11, vr12, vr13, vr14, vr15, vr16, vr17, vr18, vr19, vr20, vr21, vr22, vr23, vr24, vr25, vr26, vr27, vr28, vr29, vr30, vr31, vr32, vr33, vr34, opS, fpS, okP, pack, nAl, allocA, shId, leaves, fillA, fillR, splice, Nat.reduceLT, Nat.reduceEqDiff, Nat.reduceLeDiff, Nat.reduceAdd, Nat.reduceSub, Nat.reduceMul, Int.reduceBEq, Int.reduceBNe, Int.reduceLT, Int.reduceLE, Int.reduceEq, reduceIte, reduceCtorEq, da, int, boolA, RetP_go, resT, resC, resN, retV1, retV2, retV3, retV0, frzFZ, takeM, Option.some.injEq, kb, sI, sK, pI, pK, k1, k2, takeM, compat_ll, apt, nin]
    exact ⟨rfl, rfl⟩
end Go.VI

set_option linter.unusedVariables false
set_option linter.unusedSimpArgs false
set_option maxRecDepth 100000
namespace Go.VI
attribute [local congr] AW_congr OW_congr DW_congr NW_congr VW_congr GW_congr PW_congr KW_congr ite_congr' GV_congr CV_congr
theorem vRows_K (H : Heap) (id : Nat) (l : List KidM) : vRows H id (encK l) = some (l.map kidC) := by
  cases l <;> rfl
theorem rep_sl_eval {L : List Blk} {id i j len : Nat} {rows : List (List AV)} {l : List KidM} (hi : L[id]? = some (.row false 2 rows)) (hlen : len = rows.length) (hk : i ≤ j) (hj : j ≤ len) (hb : len ≤ 2000) (hl : l.length ≤ 2000) :
    repP 2 32 [.sl id 0 len, .sc (.int .i64 (i : Int)), .sc (.int .i64 (j : Int)), encK l] (hx Heap.empty L) = some (.sl L.length 0 (rows.take i ++ l.map kidC ++ rows.drop j).length, hx Heap.empty (L.set id .dead ++ [.row false 2 (rows.take i ++ l.map kidC ++ rows.drop j)])) := by
  subst hlen
  unfold repP cutP
  simp only [hxe_get', hi, vRows_K, Option.bind_some]
  rw [if_pos ⟨trivial, by decide, Nat.le_refl _, by omega, by omega, by omega, allK l, by simp; omega⟩]
  simp only [hxe_nx, List.take_length, Int.toNat_natCast, Nat.add_zero, List.replicate_zero, hx_nil]
  refine congrArg some (Prod.ext rfl ?_)
  simp only [hxe_set]
  rw [hxe_put, if_neg (by simp)]
theorem krep {L : List Blk} {id i j len : Nat} {rows : List (List AV)} {l : List KidM} (hi : L[id]? = some (.row false 2 rows)) (hlen : len = rows.length) (hk : i ≤ j) (hj : j ≤ len) (hb : len ≤ 2000) (hl : l.length ≤ 2000) {Q : AV → Heap → Prop} :
    KW ft (.fn (.func 103) [] []) [.sl id 0 len, .sc (.int .i64 (i : Int)), .sc (.int .i64 (j : Int)), encK l] (hx Heap.empty L) Q ↔ Q (.sl L.length 0 (rows.take i ++ l.map kidC ++ rows.drop j).length) (hx Heap.empty (L.set id .dead ++ [.row false 2 (rows.take i ++ l.map kidC ++ rows.drop j)])) :=
  k_prim rfl (rep_sl_eval hi hlen hk hj hb hl) (by rw [hxe_nx, hxe_nx]; simp)
def swapM (n : NodeM) (k many : Nat) (l : List KidM) : NodeM := ⟨n.leaf, n.items, n.kids.take k ++ l ++ n.kids.drop (k + many)⟩
theorem s32 (n : NodeM) (k many : Nat) (l : List KidM) (h0 : n.kids ≠ []) (h2 : n.kids.length ≤ 1000) (hl : l.length ≤ 1000) (hk : k + many ≤ n.kids.length) {args : List AV} {H H1 : Heap} (hz : frzCells H args = some ([.agg (nodeC n), int k, int many, encK l], H1)) :
    callL ft (.fn (.func 32) [] []) args H = some (.agg (nodeC (swapM n k many l)), H1) := by
  refine call_p rfl (by simpa using hz) (by simp) ?_
  unfold c32 r32
  have hj : nodeC (swapM n k many l) = [.sc (.bool n.leaf), encI n.items, .lst (n.kids.map kidC |>.take k |>.append (l.map kidC) |>.append ((n.kids.map kidC).drop (k + many)))] := by
    simp only [swapM, nodeC, encK, List.map_append, List.map_take, List.map_drop]
    rfl
  have kc := fun L Q => @kcloK n.kids h0 h2 L Q
  have g1 : ((0 : Int) > (k : Int)) = False := eq_false (by omega)
  have g2 : ((n.kids.length : Int) < k) = False := eq_false (by omega)
  have g3 : ((0 : Int) > (many : Int)) = False := eq_false (by omega)
  have g4 : ((n.kids.length : Int) - k < many) = False := eq_false (by omega)
  have w1 : IntKind.i64.wrap ((n.kids.length : Int) - k) = (n.kids.length : Int) - k := wrap_i64 (by omega)
  have w2 : IntKind.i64.wrap ((k : Int) + many) = ((k + many : Nat) : Int) := by rw [wrap_i64 (by omega)]; omega
  have kr := fun L h Q => @krep L 3 k (k + many) n.kids.length (n.kids.map kidC) l h (by simp) (by omega) hk (by omega) (by omega) Q
  have p1 : ∀ args, pureV ft (.fn (.func 91) [] []) args = none := fun _ => rfl
  have p2 : ∀ args, pureV ft (.fn (.func 103) [] []) args = none := fun _ => rfl
  rw [hj]
  simp only [↓vp, vq0, vq1, vq2, vq3, vr0, vr1, vr2, vr3, vr4, vr5, vr6, vr7, vr8, vr9, vr10, vr11, vr12, vr13, vr14, vr15, vr16, vr17, vr18, vr19, vr20, vr21, vr22, vr23, vr24, vr25, vr26, vr27, vr28, vr29, vr30, vr31, vr32, vr33, vr34, opS, fpS, okP, pack, nAl, allocA, shId, leaves, fillA, fillR, splice, Nat.reduceLT, Nat.reduceEqDiff, Nat.reduceLeDiff, Nat.reduceAdd, Nat.reduceSub, Nat.reduceMul, Int.reduceBEq, Int.reduceBNe, Int.reduceLT, Int.reduceLE, Int.reduceEq, reduceIte, reduceCtorEq, da, int, boolA, nodeC, g1, g2, g3, g4, w1, w2]
  simp only [↓vp, vq0, vq1, vq2, vq3, vr0, vr1, vr2, vr3, vr4, vr5, vr6, vr7, vr8, vr9, vr10, vr11, vr12, vr13, vr14, vr15, vr16, vr17, vr18, vr19, vr20, vr21, vr22, vr23, vr24, vr25, vr26, vr27, vr28, vr29, vr30, vr31, vr32, vr33, vr34, opS, fpS, okP, pack, nAl, allocA, shId, leaves, fillA, fillR, splice, Nat.reduceLT, Nat.reduceEqDiff, Nat.reduceLeDiff, Nat.reduceAdd, Nat.reduceSub, Nat.reduceMul, Int.reduceBEq, Int.reduceBNe, Int.reduceLT, Int.reduceLE, Int.reduceEq, reduceIte, reduceCtorEq, da, int, boolA, RetP_go, resT, resC, resN, retV1, retV2, retV3, retV0, frzFZ, takeM, Option.some.injEq, nodeC, g1, g2, g3, g4, w1, w2, kc, kr, compat_al, compat_la, sameAt1, p1, p2, mkFQ_n, hxe_get', Bool.and_eq_true, List.take_length]
  rfl
noncomputable def ftV : FT
  | 76 => some (.pprim (goP ft 76))
  | 101 => some (.prim (cloP 4 64))
  | 137 => some (.prim (delP 4 64))
  | 77 => some (.go true 29 r77 c77)
  | _ => none
theorem kV_find {n : NodeM} {key : Bytes} (hn : okN n) (hl2 : n.items.length < 4000000000000000000) (hk : okB key) {K : Heap} {L : List Blk} {Q : AV → Heap → Prop} :
    KW ftV (.fn (.func 76) [] []) [.agg (nodeC n), encB key] (hx K L) Q ↔ Q (.tup [int (bsM n.items key), boolA (bsIs n.items key)]) (hx K L) := by
  refine KW_of (call_pprim (as' := [.agg (nodeC n), encB key]) (p := goP ft 76) rfl rfl ?_)
  unfold goP
  have hc : closedL [.agg (nodeC n), encB key] = true := rfl
  rw [if_pos hc, s76 n key hn hl2 hk]
  rfl
theorem kV_clo {l : List ItemM} (h0 : l ≠ []) (hb : l.length ≤ 1000) {L : List Blk} {Q : AV → Heap → Prop} : KW ftV (.fn (.func 101) [] []) [encI l] (hx Heap.empty L) Q ↔ Q (.sl (L.length + 1) 0 l.length) (hx Heap.empty (L ++ [.dead, .row false 4 (l.map itemC)])) := by
  cases l with
  | nil => exact absurd rfl h0
  | cons x xs =>
    refine k_prim (p := cloP 4 64) rfl ?_ ?_
    · unfold cloP
      have hv : vRows (hx Heap.empty L) (hx Heap.empty L).next (encI (x :: xs)) = some ((x :: xs).map itemC) := rfl
      show ((vRows (hx Heap.empty L) (hx Heap.empty L).next (encI (x :: xs))).bind _) = _
      rw [hv, Option.bind_some, if_pos ⟨by simp, by simp only [List.length_map]; omega, allI _⟩, hxe_nx, hx_hx, List.length_map]
    · rw [hxe_nx, hxe_nx]
      simp
theorem del_sl_eval {L : List Blk} {id i j len : Nat} {rows : List (List AV)} (hi : L[id]? = some (.row false 4 rows)) (hlen : len = rows.length) (hk : i < j) (hj : j ≤ len) (hb : len ≤ 2000) :
    delP 4 64 [.sl id 0 len, .sc (.int .i64 (i : Int)), .sc (.int .i64 (j : Int))] (hx Heap.empty L) = some (.sl (L.length + 1) 0 (rows.take i ++ rows.drop j).length, hx Heap.empty (L.set id .dead ++ [.dead, .row false 4 (rows.take i ++ rows.drop j)])) := by
  subst hlen
  unfold delP cutP
  have hv : vRows (hx Heap.empty L) id (.sc (.slice none 0 0)) = some [] := rfl
  simp only [hxe_get', hi, hv, Option.bind_some]
  rw [if_pos (by omega), if_pos ⟨trivial, by decide, Nat.le_refl _, by omega, by omega, by omega, rfl, by simp; omega⟩]
  simp only [hxe_nx, List.take_length, Int.toNat_natCast, List.append_nil]
  refine congrArg some (Prod.ext rfl ?_)
  simp only [hxe_set, hx_hx]
  rw [hxe_put, if_neg (by simp)]
  simp
theorem kV_del {L : List Blk} {id i j len : Nat} {rows : List (List AV)} (hi : L[id]? = some (.row false 4 rows)) (hlen : len = rows.length) (hk : i < j) (hj : j ≤ len) (hb : len ≤ 2000) {Q : AV → Heap → Prop} :
    KW ftV (.fn (.func 137) [] []) [.sl id 0 len, .sc (.int .i64 (i : Int)), .sc (.int .i64 (j : Int))] (hx Heap.empty L) Q ↔ Q (.sl (L.length + 1) 0 (rows.take i ++ rows.drop j).length) (hx Heap.empty (L.set id .dead ++ [.dead, .row false 4 (rows.take i ++ rows.drop j)])) :=
  k_prim rfl (del_sl_eval hi hlen hk hj hb) (by rw [hxe_nx, hxe_nx]; simp)
def woutM (n : NodeM) (key : Bytes) : NodeM := if bsIs n.items key then ⟨n.leaf, n.items.take (bsM n.items key) ++ n.items.drop (bsM n.items key + 1), n.kids⟩ else n
theorem sV_wout (n : NodeM) (key : Bytes) (hn : okN n) (h1 : n.items.length ≤ 1000) (hk : okB key) (H : Heap) :
    callL ftV (.fn (.func 77) [] []) [.agg (nodeC n), encB key] H = some (.tup [.agg (nodeC (woutM n key)), boolA (bsIs n.items key)], H) := by
  refine call_p (as' := [.agg (nodeC n), encB key]) rfl rfl (by simp) ?_
  unfold c77 r77 woutM
  have kf := fun K L Q => @kV_find n key hn (by omega) hk K L Q
  cases hi : bsIs n.items key with
  | false =>
    rw [hi] at kf
    simp only [↓vp, vq0, vq1, vq2, vq3, vr0, vr1, vr2, vr3, vr4, vr5, vr6, vr7, vr8, vr9, vr10, vr11, vr12, vr13, vr14, vr15, vr16, vr17, vr18, vr19, vr20, vr21, vr22, vr23, vr24, vr25, vr26, vr27, vr28, vr29, vr30, vr31, vr32, vr33, vr34, opS, fpS, okP, pack, nAl, allocA, shId, leaves, fillA, fillR, splice, Nat.reduceLT, Nat.reduceEqDiff, Nat.reduceLeDiff, Nat.reduceAdd, Nat.reduceSub, Nat.reduceMul, Int.reduceBEq, Int.reduceBNe, Int.reduceLT, Int.reduceLE, Int.reduceEq, reduceIte, reduceCtorEq, da, int, boolA, RetP_go, resT, resC, resN, retV1, retV2, retV3, retV0, frzFZ, takeM, Option.some.injEq, kf]
    try rfl
  | true =>
    rw [hi] at kf
    have hlt := bsIs_lt hi
    have h0 : n.items ≠ [] := fun e => by rw [e] at hlt; simp at hlt
    have w2 : IntKind.i64.wrap ((bsM n.items key : Int) + 1) = ((bsM n.items key + 1 : Nat) : Int) := by rw [wrap_i64 (by omega)]; omega
    have kc := fun L Q => @kV_clo n.items h0 h1 L Q
    have kd := fun L h Q => @kV_del L 3 (bsM n.items key) (bsM n.items key + 1) n.items.length (n.items.map itemC) h (by simp) (by omega) (by omega) (by omega) Q
    have hj : nodeC ⟨n.leaf, n.items.take (bsM n.items key) ++ n.items.drop (bsM n.items key + 1), n.kids⟩ = [.sc (.bool n.leaf), .lst ((n.items.map itemC).take (bsM n.items key) ++ (n.items.map itemC).drop (bsM n.items key + 1)), encK n.kids] := by
      simp only [nodeC, encI, List.map_append, List.map_take, List.map_drop]
      rfl
    have p1 : ∀ args, pureV ftV (.fn (.func 101) [] []) args = none := fun _ => rfl
    have p2 : ∀ args, pureV ftV (.fn (.func 137) [] []) args = none := fun _ => rfl
    rw [if_pos rfl, hj]
    simp only [↓vp, vq0, vq1, vq2, vq3, vr0, vr1, vr2, vr3, vr4, vr5, vr6, vr7, vr8, vr9, vr10, vr11, vr12, vr13, vr14, vr15, vr16, vr17, vr18, vr19, vr20, vr21, vr22, vr23, vr24, vr25, vr26, vr27, vr28, vr29, vr30, vr31, vr32, vr33, vr34, opS, fpS, okP, pack, nAl, allocA, shId, leaves, fillA, fillR, splice, Nat.reduceLT, Nat.reduceEqDiff, Nat.reduceLeDiff, Nat.reduceAdd, Nat.reduceSub, Nat.reduceMul, Int.reduceBEq, Int.reduceBNe, Int.reduceLT, Int.reduceLE, Int.reduceEq, reduceIte, reduceCtorEq, da, int, boolA, kf]
    simp only [↓vp, vq0, vq1, vq2, vq3, vr0, vr1, vr2, vr3, vr4, vr5, vr6, vr7, vr8, vr9, vr10, vr11, vr12, vr13, vr14, vr15, vr16, vr17, vr18, vr19, vr20, vr21, vr22, vr23, vr24, vr25, vr26, vr27, vr28, vr29, vr30, vr31, vr32, vr33, vr34, opS, fpS, okP, pack, nAl, allocA, shId, leaves, fillA, fillR, splice, Nat.reduceLT, Nat.reduceEqDiff, Nat.reduceLeDiff, Nat.reduceAdd, Nat.reduceSub, Nat.reduceMul, Int.reduceBEq, Int.reduceBNe, Int.reduceLT, Int.reduceLE, Int.reduceEq, reduceIte, reduceCtorEq, da, int, boolA, RetP_go, resT, resC, resN, retV1, retV2, retV3, retV0, frzFZ, takeM, Option.some.injEq, nodeC, w2, kc, kd, compat_al, compat_la, sameAt1, p1, p2, mkFQ_n, hxe_get', Bool.and_eq_true, List.take_length]
/-- Without as a primitive. -/
noncomputable def woutP : List AV → Option AV := goP ftV 77
theorem woutP_eq {n : NodeM} {key : Bytes} (hn : okN n) (h1 : n.items.length ≤ 1000) (hk : okB key) : woutP [.agg (nodeC n), encB key] = some (.tup [.agg (nodeC (woutM n key)), boolA (bsIs n.items key)]) := by
  unfold woutP goP
  have hc : closedL [.agg (nodeC n), encB key] = true := rfl
  rw [if_pos hc, sV_wout n key hn h1 hk]
  rfl
/-- The table of what stands on node.With, node.Without. -/
noncomputable def ftX : FT := fun k => if k = 31 then some (.pprim withP) else if k = 77 then some (.pprim woutP) else ftL k
theorem ft_sub : Sub ft ftX := fun k d h => by
  unfold ftX
  rw [if_neg (fun e => by subst e; cases h), if_neg (fun e => by subst e; cases h)]
  unfold ftL
  split <;> first
    | (cases h; done)
    | exact h
end Go.VI

set_option linter.unusedVariables false
set_option linter.unusedSimpArgs false
namespace Go.VI
/-- All cells of the first world. -/
def frzW (W : World) : Fz := fun b o => W.cell? ⟨b, o, none⟩
def CVF (F : Fz) (xs : List AV) (cs : List Value) : Prop := xs.length = cs.length ∧ ∀ i c, xs[i]? = some c → c.one = true ∧ VF F c (cs.getD i undef)
def RD (P : Program) (W : World) (t : TypeId) (E : List AV → Prop) : Prop :=
  ∀ (H : Type) (enc : TypeId × Value → H) (base : Nat) (spare : Nat → Bool) (held : Bool) (fuel : Nat) (cs : List Value) (x : DataW H × List MemPlace),
    DataW.trod enc P W base spare held fuel t cs = some x → (∀ n ∈ x.1.weights P t, n ≤ reachBytes) → ∃ xs, E xs ∧ CVF (frzW W) xs cs
theorem CVF.one {F : Fz} {a : AV} {v : Value} (h1 : a.one = true) (h : VF F a v) : CVF F [a] [v] := ⟨rfl, fun i c hc => by
  cases i with
  | zero => cases hc; exact ⟨h1, h⟩
  | succ i => simp at hc⟩
theorem CVF.cons {F : Fz} {a : AV} {v : Value} {l : List AV} {vs : List Value} (h : CVF F [a] [v]) (ht : CVF F l vs) : CVF F (a :: l) (v :: vs) := ⟨by simp [ht.1], fun i c hc => by
  cases i with
  | zero => exact h.2 0 c hc
  | succ i => exact ht.2 i c hc⟩
theorem rd_bool {P : Program} {W : World} {t : TypeId} (ht : P.underlying t = some .bool) : RD P W t fun xs => ∃ b, xs = [.sc (.bool b)] := fun H enc base spare held fuel cs x h _ => by
  obtain ⟨b, rfl, _⟩ := DataW.trod_bool ht h
  exact ⟨_, ⟨b, rfl⟩, .one rfl (.sc rfl)⟩
theorem rd_int {P : Program} {W : World} {t : TypeId} {k : IntKind} (ht : P.underlying t = some (.int k)) : RD P W t fun xs => ∃ n, xs = [.sc (.int k n)] ∧ (Lit.int k n).wf = true := fun H enc base spare held fuel cs x h _ => by
  obtain ⟨n, rfl, _, hw⟩ := DataW.trod_int ht h
  exact ⟨_, ⟨n, rfl, hw⟩, .one rfl (.sc rfl)⟩
theorem cell_flat {W : World} {a : Addr} {v : Value} (h : W.cell? a = some v) : a.spot = none := by
  cases hs : a.spot with
  | none => rfl
  | some s =>
    simp only [World.cell?] at h
    split at h
    · simp [hs] at h
    · cases h
theorem add_flat (b o i : Nat) : (Addr.mk b o none).add i = ⟨b, o + i, none⟩ := by
  unfold Addr.add
  split
  · rename_i h; subst h; rfl
  · rfl
theorem weights_all {H : Type} {P : Program} {e : TypeId} : ∀ {l : List (DataW H)} {d : DataW H}, d ∈ l → ∀ n ∈ d.weights P e, n ∈ DataW.weightsAll P e l
  | x :: l, d, hd, n, hn => by
    simp only [DataW.weightsAll, List.mem_append]
    rcases List.mem_cons.1 hd with rfl | hd
    · exact .inl hn
    · exact .inr (weights_all hd n hn)
theorem rd_slice {P : Program} {W : World} {t e : TypeId} {E : List AV → Prop} {sz B : Nat} (ht : P.underlying t = some (.slice e)) (hc : P.cellsOf e = sz) (h0 : 0 < sz) (hB : P.bytesOf e = B) (he : RD P W e E) :
    RD P W t fun xs => ∃ rows, xs = [.lst rows] ∧ (∀ r ∈ rows, E r ∧ r.length = sz) ∧ rows.length * B ≤ reachBytes := fun H enc base spare held fuel cs x h hw => by
  rcases DataW.trod_slice ht h with ⟨rfl, rfl⟩ | ⟨a, len, cap, elems, rest, n, rfl, rfl, rfl, hb, hl, hm, hlen, hel, _, _⟩
  · exact ⟨_, ⟨[], rfl, by simp, by simp⟩, .one rfl (.lst (sz := 0) (b := 0) (o := 0) (fun _ _ => undef) (Nat.le_refl _) (fun h => absurd rfl h) (by simp) (by simp) (by simp) (by simp))⟩
  · rw [hc] at hel
    have hw1 : (len + rest.length) * B ≤ reachBytes := by
      have := hw ((elems.length + rest.length) * P.bytesOf e) (by simp [DataW.weights, ht])
      rwa [hB, hlen] at this
    have each : ∀ i : Nat, ∃ r : List AV, i < len → ∃ cs, W.cells? base (a.add (i * sz)) sz = some cs ∧ E r ∧ CVF (frzW W) r cs := fun i => by
      by_cases hi : i < len
      · have hy := hel i hi
        have hi' : i < elems.length := by omega
        rw [List.getElem?_eq_getElem hi', Option.bind_eq_some_iff] at hy
        obtain ⟨cs, hcs, hy⟩ := hy
        obtain ⟨r, hr, hv⟩ := he H enc base spare held n cs _ hy fun k hk => hw k (by
          simp only [DataW.weights, ht, List.mem_cons, List.mem_append]
          exact .inr (.inl (weights_all (List.mem_map.2 ⟨elems[i], List.getElem_mem hi', rfl⟩) k hk)))
        exact ⟨r, fun _ => ⟨cs, hcs, hr, hv⟩⟩
      · exact ⟨[], fun h => absurd h hi⟩
    obtain ⟨f, hf⟩ := Classical.skolem.1 each
    have hrows : ∀ i r, ((List.range len).map f)[i]? = some r → i < len ∧ r = f i := fun i r hr => by
      rw [List.getElem?_map, Option.map_eq_some_iff] at hr
      obtain ⟨j, hj, rfl⟩ := hr
      obtain ⟨h1, h2⟩ := List.getElem?_eq_some_iff.1 hj
      rw [List.getElem_range] at h2
      rw [List.length_range] at h1
      exact ⟨h1, by rw [h2]⟩
    have hlr : ∀ i, i < len → (f i).length = sz := fun i hi => by
      obtain ⟨cs, h1, _, h2⟩ := hf i hi
      rw [h2.1, (World.cells?_some h1).2.1]
    have cell : ∀ i j, i < len → j < sz → ∃ cs, W.cells? base (a.add (i * sz)) sz = some cs ∧ W.cell? ((a.add (i * sz)).add j) = cs[j]? ∧ ∃ v, cs[j]? = some v := fun i j hi hj => by
      obtain ⟨cs, h1, _, _⟩ := hf i hi
      obtain ⟨_, h2, h3⟩ := World.cells?_some h1
      exact ⟨cs, h1, h3 j hj, _, List.getElem?_eq_getElem (by omega)⟩
    have hflat : 0 < len → a = ⟨a.block, a.off, none⟩ := fun h => by
      obtain ⟨cs, _, h1, v, h2⟩ := cell 0 0 h h0
      rw [h2] at h1
      have h3 : (a.add (0 * sz)).add 0 = a := by rw [Nat.zero_mul]; simp [Addr.add]
      rw [h3] at h1
      have := cell_flat h1
      cases a
      simp only at this
      subst this
      rfl
    have hF : ∀ i j c, i < len → (f i)[j]? = some c → c.one = true ∧ ∃ v, frzW W a.block (a.off + i * sz + j) = some v ∧ VF (frzW W) c v := fun i j c hi hc => by
      have hj : j < sz := by rw [← hlr i hi]; exact (List.getElem?_eq_some_iff.1 hc).1
      obtain ⟨cs, h1, h2, v, h3⟩ := cell i j hi hj
      obtain ⟨cs', h1', _, h4⟩ := hf i hi
      rw [h1] at h1'
      cases h1'
      obtain ⟨h5, h6⟩ := h4.2 j c hc
      refine ⟨h5, v, ?_, ?_⟩
      · rw [hflat (by omega), add_flat, add_flat, h3] at h2
        exact h2
      · have : cs.getD j undef = v := by rw [List.getD_eq_getElem?_getD, h3]; rfl
        rwa [this] at h6
    refine ⟨_, ⟨(List.range len).map f, rfl, fun r hr => ?_, ?_⟩, .one rfl ?_⟩
    · obtain ⟨i, hi, rfl⟩ := List.mem_map.1 hr
      have hi := List.mem_range.1 hi
      obtain ⟨_, _, h1, _⟩ := hf i hi
      exact ⟨h1, hlr i hi⟩
    · simp only [List.length_map, List.length_range]
      exact Nat.le_trans (Nat.mul_le_mul_right _ (by omega)) hw1
    · have hll : ((List.range len).map f).length = len := by simp
      have := VF.lst (F := frzW W) (rows := (List.range len).map f) (A := some a) (cap := cap) (sz := sz) (b := a.block) (o := a.off) (fun i j => (frzW W a.block (a.off + i * sz + j)).getD undef)
        (by simpa using hl) (fun h => by rw [← hflat (by
          cases len with
          | zero => simp at h
          | succ => omega)]) (fun i r hr => by obtain ⟨h1, rfl⟩ := hrows i r hr; exact hlr i h1)
        (fun i r j c hr hc => by obtain ⟨h1, rfl⟩ := hrows i r hr; exact (hF i j c h1 hc).1)
        (fun i r j c hr hc => by
          obtain ⟨h1, rfl⟩ := hrows i r hr
          obtain ⟨_, v, h2, _⟩ := hF i j c h1 hc
          rw [h2]; rfl)
        (fun i r j c hr hc => by
          obtain ⟨h1, rfl⟩ := hrows i r hr
          obtain ⟨_, v, h2, h3⟩ := hF i j c h1 hc
          rw [h2]; exact h3)
      rwa [hll] at this
/-- Parts, one behind the other. -/
def SE : List (List AV → Prop) → List AV → Prop
  | [], xs => xs = []
  | E :: Es, xs => ∃ a b, xs = a ++ b ∧ E a ∧ SE Es b
def consec (P : Program) : List Field → Nat → Nat → Bool
  | [], off, en => off == en
  | f :: fs, off, en => f.offset == off && consec P fs (off + P.cellsOf f.type) en
theorem consec_le {P : Program} : ∀ {fs : List Field} {off en : Nat}, consec P fs off en = true → off ≤ en
  | [], off, en, h => by simp [consec] at h; omega
  | f :: fs, off, en, h => by
    simp only [consec, Bool.and_eq_true] at h
    have := consec_le h.2
    omega
def RDs (P : Program) (W : World) : List Field → List (List AV → Prop) → Prop
  | [], [] => True
  | f :: fs, E :: Es => RD P W f.type E ∧ RDs P W fs Es
  | _, _ => False
theorem rd_fields {P : Program} {W : World} {H : Type} {enc : TypeId × Value → H} {base : Nat} {spare : Nat → Bool} {held : Bool} {n : Nat} {cs : List Value} : ∀ (fs : List Field) (Es : List (List AV → Prop)) (off : Nat) (xs : List (DataW H × List MemPlace)),
    RDs P W fs Es → consec P fs off cs.length = true → xs.length = fs.length → (∀ (i : Nat) (f : Field), fs[i]? = some f → DataW.trod enc P W base spare held n f.type ((cs.drop f.offset).take (P.cellsOf f.type)) = xs[i]?) →
    (∀ k ∈ DataW.weightsEach P (fs.map (·.type)) (xs.map (·.1)), k ≤ reachBytes) → ∃ xs, SE Es xs ∧ CVF (frzW W) xs (cs.drop off)
  | [], [], off, xs, _, hc, _, _, _ => by
    simp only [consec, beq_iff_eq] at hc
    refine ⟨[], rfl, by simp [hc], fun i c h => by simp at h⟩
  | [], _ :: _, _, _, h, _, _, _, _ => h.elim
  | _ :: _, [], _, _, h, _, _, _, _ => h.elim
  | f :: fs, E :: Es, off, [], _, _, hl, _, _ => by simp at hl
  | f :: fs, E :: Es, off, x :: xs, hr, hc, hl, ht, hw => by
    simp only [consec, Bool.and_eq_true, beq_iff_eq] at hc
    obtain ⟨ho, hc⟩ := hc
    have hle := consec_le hc
    simp only [List.map_cons, DataW.weightsEach, List.mem_append] at hw
    have h0 := ht 0 f rfl
    rw [ho] at h0
    obtain ⟨a, ha, hva⟩ := hr.1 H enc base spare held n _ x h0 fun k hk => hw k (.inl hk)
    obtain ⟨b, hb, hvb⟩ := rd_fields fs Es (off + P.cellsOf f.type) xs hr.2 hc (by simpa using hl) (fun i g hg => ht (i + 1) g hg) fun k hk => hw k (.inr hk)
    have hla : a.length = P.cellsOf f.type := by
      rw [hva.1]
      simp
      omega
    refine ⟨a ++ b, ⟨a, b, rfl, ha, hb⟩, ?_, fun i c h => ?_⟩
    · rw [List.length_append, hvb.1, hla]
      simp
      omega
    · by_cases hi : i < a.length
      · rw [List.getElem?_append_left hi] at h
        obtain ⟨h1, h2⟩ := hva.2 i c h
        refine ⟨h1, ?_⟩
        have : ((cs.drop off).take (P.cellsOf f.type)).getD i undef = (cs.drop off).getD i undef := by
          rw [List.getD_eq_getElem?_getD, List.getD_eq_getElem?_getD, List.getElem?_take_of_lt (by omega)]
        rwa [this] at h2
      · rw [List.getElem?_append_right (by omega)] at h
        obtain ⟨h1, h2⟩ := hvb.2 _ c h
        refine ⟨h1, ?_⟩
        have : (cs.drop (off + P.cellsOf f.type)).getD (i - a.length) undef = (cs.drop off).getD i undef := by
          rw [List.getD_eq_getElem?_getD, List.getD_eq_getElem?_getD, List.getElem?_drop, List.getElem?_drop]
          congr 2
          omega
        rwa [this] at h2
theorem rd_struct {P : Program} {W : World} {t : TypeId} {fs : Array Field} {Es : List (List AV → Prop)} (ht : P.underlying t = some (.struct fs)) (hc : consec P fs.toList 0 (P.cellsOf t) = true) (hr : RDs P W fs.toList Es) :
    RD P W t (SE Es) := fun H enc base spare held fuel cs x h hw => by
  obtain ⟨xs, n, rfl, rfl, hl, hx, hf⟩ := DataW.trod_struct ht h
  have := rd_fields (cs := cs) fs.toList Es 0 xs hr (by rw [hl]; exact hc) (by simpa using hx) (fun i f hi => hf i f (by simpa using hi)) (fun k hk => hw k (by simpa [DataW.weights, ht] using hk))
  simpa using this
end Go.VI

set_option linter.unusedVariables false
set_option linter.unusedSimpArgs false
namespace Go.VI
open Go.RowKit
def m0 : Mp := fun _ => none
theorem inv0 {P : Program} (W : World) : Inv P m0 (frzW W) Heap.empty W :=
  ⟨fun b o v h => h, fun id mb h => absurd h (by simp [m0]), fun id mb B h => absurd h (by simp [m0]), fun id id' mb mb' h => absurd h (by simp [m0])⟩
theorem below_of {F' : Fz} {m' : Mp} {W W' : World} (h : Ext m0 (frzW W) W m' F' W') : Below W.heap.size W W' :=
  ⟨h.os, h.tape, h.out, h.sz, fun k hk => h.blk k hk fun id mb hm => absurd hm (by simp [m0])⟩
theorem law_calls {P : Program} (hP : P.follows .mixedOrders = true) {ft : FT} (hft : FTOk P ft) {k : FuncId} {args : List AV} {vs : Array Value} {W : World} {H' : Heap} (hgo : ∃ p n rs body, ft k = some (.go p n rs body))
    (h : callL ft (.fn (.func k) [] []) args Heap.empty = some (.sc (.bool true), H')) (hv : VRs m0 (frzW W) args vs) :
    Calls P k vs W fun e W' => e = .returned (.bool true) ∧ Below W.heap.size W W' := by
  obtain ⟨n, hn⟩ := callL_some.1 h
  have hn' : callF ft (exec ft n) k args Heap.empty = some (.sc (.bool true), H') := by simpa [callV] using hn
  refine (callF_sound hP hft n hn' (inv0 W) hv hgo).mono fun e W' he => ?_
  obtain ⟨u, m', F', rfl, hu, _, hx, _⟩ := he
  refine ⟨?_, below_of hx⟩
  cases hu with
  | fz hu => cases hu; rfl
theorem go_ok {P : Program} {k : FuncId} {n : Nat} {rs : List ARes} {body : ACode} (h : compF P k = some (n, rs, body)) (hn : (P.funcs[k]?).all (fun fn => !(fn.name == "runtime.NumGoroutine")) = true) :
    ∃ fn c, P.funcs[k]? = some fn ∧ (fn.name == "runtime.NumGoroutine") = false ∧ fn.body = some c ∧ compC P c = some body ∧ fn.ntmps = n ∧ fn.results.toList.mapM (compRes P) = some rs := by
  unfold compF at h
  simp only [Option.bind_eq_some_iff, Option.map_eq_some_iff, Prod.mk.injEq] at h
  obtain ⟨fn, h1, b, h2, c, h3, rs', h4, rfl, rfl, rfl⟩ := h
  rw [h1] at hn
  exact ⟨fn, b, h1, by simpa using hn, h2, h3, rfl, h4⟩
end Go.VI

set_option linter.unusedVariables false
set_option maxRecDepth 100000
namespace Go.VI
theorem fc18 : compF Go.Proofs.Try.prog 18 = some (47, r18, c18) := by rfl
theorem fn18 : (Go.Proofs.Try.prog.funcs[18]?).all (fun fn => !(fn.name == "runtime.NumGoroutine")) = true := by kernel_rfl
theorem fc20 : compF Go.Proofs.Try.prog 20 = some (40, r20, c20) := by rfl
theorem fn20 : (Go.Proofs.Try.prog.funcs[20]?).all (fun fn => !(fn.name == "runtime.NumGoroutine")) = true := by kernel_rfl
theorem fc21 : compF Go.Proofs.Try.prog 21 = some (13, r21, c21) := by rfl
theorem fn21 : (Go.Proofs.Try.prog.funcs[21]?).all (fun fn => !(fn.name == "runtime.NumGoroutine")) = true := by kernel_rfl
theorem fc22 : compF Go.Proofs.Try.prog 22 = some (69, r22, c22) := by rfl
theorem fn22 : (Go.Proofs.Try.prog.funcs[22]?).all (fun fn => !(fn.name == "runtime.NumGoroutine")) = true := by kernel_rfl
theorem fc23 : compF Go.Proofs.Try.prog 23 = some (10, r23, c23) := by rfl
theorem fn23 : (Go.Proofs.Try.prog.funcs[23]?).all (fun fn => !(fn.name == "runtime.NumGoroutine")) = true := by kernel_rfl
theorem fc24 : compF Go.Proofs.Try.prog 24 = some (85, r24, c24) := by rfl
theorem fn24 : (Go.Proofs.Try.prog.funcs[24]?).all (fun fn => !(fn.name == "runtime.NumGoroutine")) = true := by kernel_rfl
theorem fc25 : compF Go.Proofs.Try.prog 25 = some (40, r25, c25) := by rfl
theorem fn25 : (Go.Proofs.Try.prog.funcs[25]?).all (fun fn => !(fn.name == "runtime.NumGoroutine")) = true := by kernel_rfl
theorem fc26 : compF Go.Proofs.Try.prog 26 = some (11, r26, c26) := by rfl
theorem fn26 : (Go.Proofs.Try.prog.funcs[26]?).all (fun fn => !(fn.name == "runtime.NumGoroutine")) = true := by kernel_rfl
theorem fc27 : compF Go.Proofs.Try.prog 27 = some (33, r27, c27) := by rfl
theorem fn27 : (Go.Proofs.Try.prog.funcs[27]?).all (fun fn => !(fn.name == "runtime.NumGoroutine")) = true := by kernel_rfl
theorem fc28 : compF Go.Proofs.Try.prog 28 = some (26, r28, c28) := by rfl
theorem fn28 : (Go.Proofs.Try.prog.funcs[28]?).all (fun fn => !(fn.name == "runtime.NumGoroutine")) = true := by kernel_rfl
theorem fc29 : compF Go.Proofs.Try.prog 29 = some (124, r29, c29) := by rfl
theorem fn29 : (Go.Proofs.Try.prog.funcs[29]?).all (fun fn => !(fn.name == "runtime.NumGoroutine")) = true := by kernel_rfl
theorem fc30 : compF Go.Proofs.Try.prog 30 = some (65, r30, c30) := by rfl
theorem fn30 : (Go.Proofs.Try.prog.funcs[30]?).all (fun fn => !(fn.name == "runtime.NumGoroutine")) = true := by kernel_rfl
theorem fc32 : compF Go.Proofs.Try.prog 32 = some (37, r32, c32) := by rfl
theorem fn32 : (Go.Proofs.Try.prog.funcs[32]?).all (fun fn => !(fn.name == "runtime.NumGoroutine")) = true := by kernel_rfl
theorem fc33 : compF Go.Proofs.Try.prog 33 = some (21, r33, c33) := by rfl
theorem fn33 : (Go.Proofs.Try.prog.funcs[33]?).all (fun fn => !(fn.name == "runtime.NumGoroutine")) = true := by kernel_rfl
theorem fc34 : compF Go.Proofs.Try.prog 34 = some (11, r34, c34) := by rfl
theorem fn34 : (Go.Proofs.Try.prog.funcs[34]?).all (fun fn => !(fn.name == "runtime.NumGoroutine")) = true := by kernel_rfl
theorem fc75 : compF Go.Proofs.Try.prog 75 = some (10, r75, c75) := by rfl
theorem fn75 : (Go.Proofs.Try.prog.funcs[75]?).all (fun fn => !(fn.name == "runtime.NumGoroutine")) = true := by kernel_rfl
theorem fc76 : compF Go.Proofs.Try.prog 76 = some (12, r76, c76) := by rfl
theorem fn76 : (Go.Proofs.Try.prog.funcs[76]?).all (fun fn => !(fn.name == "runtime.NumGoroutine")) = true := by kernel_rfl
theorem fc78 : compF Go.Proofs.Try.prog 78 = some (27, r78, c78) := by rfl
theorem fn78 : (Go.Proofs.Try.prog.funcs[78]?).all (fun fn => !(fn.name == "runtime.NumGoroutine")) = true := by kernel_rfl
theorem fc79 : compF Go.Proofs.Try.prog 79 = some (29, r79, c79) := by rfl
theorem fn79 : (Go.Proofs.Try.prog.funcs[79]?).all (fun fn => !(fn.name == "runtime.NumGoroutine")) = true := by kernel_rfl
theorem fc80 : compF Go.Proofs.Try.prog 80 = some (21, r80, c80) := by rfl
theorem fn80 : (Go.Proofs.Try.prog.funcs[80]?).all (fun fn => !(fn.name == "runtime.NumGoroutine")) = true := by kernel_rfl
theorem fc81 : compF Go.Proofs.Try.prog 81 = some (12, r81, c81) := by rfl
theorem fn81 : (Go.Proofs.Try.prog.funcs[81]?).all (fun fn => !(fn.name == "runtime.NumGoroutine")) = true := by kernel_rfl
theorem fc82 : compF Go.Proofs.Try.prog 82 = some (46, r82, c82) := by rfl
theorem fn82 : (Go.Proofs.Try.prog.funcs[82]?).all (fun fn => !(fn.name == "runtime.NumGoroutine")) = true := by kernel_rfl
theorem fc83 : compF Go.Proofs.Try.prog 83 = some (43, r83, c83) := by rfl
theorem fn83 : (Go.Proofs.Try.prog.funcs[83]?).all (fun fn => !(fn.name == "runtime.NumGoroutine")) = true := by kernel_rfl
theorem fc84 : compF Go.Proofs.Try.prog 84 = some (49, r84, c84) := by rfl
theorem fn84 : (Go.Proofs.Try.prog.funcs[84]?).all (fun fn => !(fn.name == "runtime.NumGoroutine")) = true := by kernel_rfl
theorem fc85 : compF Go.Proofs.Try.prog 85 = some (38, r85, c85) := by rfl
theorem fn85 : (Go.Proofs.Try.prog.funcs[85]?).all (fun fn => !(fn.name == "runtime.NumGoroutine")) = true := by kernel_rfl
theorem fc86 : compF Go.Proofs.Try.prog 86 = some (13, r86, c86) := by rfl
theorem fn86 : (Go.Proofs.Try.prog.funcs[86]?).all (fun fn => !(fn.name == "runtime.NumGoroutine")) = true := by kernel_rfl
theorem fc87 : compF Go.Proofs.Try.prog 87 = some (36, r87, c87) := by rfl
theorem fn87 : (Go.Proofs.Try.prog.funcs[87]?).all (fun fn => !(fn.name == "runtime.NumGoroutine")) = true := by kernel_rfl
theorem fc88 : compF Go.Proofs.Try.prog 88 = some (33, r88, c88) := by rfl
theorem fn88 : (Go.Proofs.Try.prog.funcs[88]?).all (fun fn => !(fn.name == "runtime.NumGoroutine")) = true := by kernel_rfl
theorem fc89 : compF Go.Proofs.Try.prog 89 = some (46, r89, c89) := by rfl
theorem fn89 : (Go.Proofs.Try.prog.funcs[89]?).all (fun fn => !(fn.name == "runtime.NumGoroutine")) = true := by kernel_rfl
theorem fc90 : compF Go.Proofs.Try.prog 90 = some (9, r90, c90) := by rfl
theorem fn90 : (Go.Proofs.Try.prog.funcs[90]?).all (fun fn => !(fn.name == "runtime.NumGoroutine")) = true := by kernel_rfl
theorem fc93 : compF Go.Proofs.Try.prog 93 = some (36, r93, c93) := by rfl
theorem fn93 : (Go.Proofs.Try.prog.funcs[93]?).all (fun fn => !(fn.name == "runtime.NumGoroutine")) = true := by kernel_rfl
theorem fc94 : compF Go.Proofs.Try.prog 94 = some (36, r94, c94) := by rfl
theorem fn94 : (Go.Proofs.Try.prog.funcs[94]?).all (fun fn => !(fn.name == "runtime.NumGoroutine")) = true := by kernel_rfl
theorem fc95 : compF Go.Proofs.Try.prog 95 = some (17, r95, c95) := by rfl
theorem fn95 : (Go.Proofs.Try.prog.funcs[95]?).all (fun fn => !(fn.name == "runtime.NumGoroutine")) = true := by kernel_rfl
theorem fc96 : compF Go.Proofs.Try.prog 96 = some (32, r96, c96) := by rfl
theorem fn96 : (Go.Proofs.Try.prog.funcs[96]?).all (fun fn => !(fn.name == "runtime.NumGoroutine")) = true := by kernel_rfl
theorem fc97 : compF Go.Proofs.Try.prog 97 = some (31, r97, c97) := by rfl
theorem fn97 : (Go.Proofs.Try.prog.funcs[97]?).all (fun fn => !(fn.name == "runtime.NumGoroutine")) = true := by kernel_rfl
theorem fc98 : compF Go.Proofs.Try.prog 98 = some (32, r98, c98) := by rfl
theorem fn98 : (Go.Proofs.Try.prog.funcs[98]?).all (fun fn => !(fn.name == "runtime.NumGoroutine")) = true := by kernel_rfl
theorem fc99 : compF Go.Proofs.Try.prog 99 = some (5, r99, c99) := by rfl
theorem fn99 : (Go.Proofs.Try.prog.funcs[99]?).all (fun fn => !(fn.name == "runtime.NumGoroutine")) = true := by kernel_rfl
theorem fc100 : compF Go.Proofs.Try.prog 100 = some (5, r100, c100) := by rfl
theorem fn100 : (Go.Proofs.Try.prog.funcs[100]?).all (fun fn => !(fn.name == "runtime.NumGoroutine")) = true := by kernel_rfl
theorem fc104 : compF Go.Proofs.Try.prog 104 = some (33, r104, c104) := by rfl
theorem fn104 : (Go.Proofs.Try.prog.funcs[104]?).all (fun fn => !(fn.name == "runtime.NumGoroutine")) = true := by kernel_rfl
theorem fc134 : compF Go.Proofs.Try.prog 134 = some (49, r134, c134) := by rfl
theorem fn134 : (Go.Proofs.Try.prog.funcs[134]?).all (fun fn => !(fn.name == "runtime.NumGoroutine")) = true := by kernel_rfl
theorem fc135 : compF Go.Proofs.Try.prog 135 = some (9, r135, c135) := by rfl
theorem fn135 : (Go.Proofs.Try.prog.funcs[135]?).all (fun fn => !(fn.name == "runtime.NumGoroutine")) = true := by kernel_rfl
theorem fc136 : compF Go.Proofs.Try.prog 136 = some (8, r136, c136) := by rfl
theorem fn136 : (Go.Proofs.Try.prog.funcs[136]?).all (fun fn => !(fn.name == "runtime.NumGoroutine")) = true := by kernel_rfl
theorem fc138 : compF Go.Proofs.Try.prog 138 = some (61, r138, c138) := by rfl
theorem fn138 : (Go.Proofs.Try.prog.funcs[138]?).all (fun fn => !(fn.name == "runtime.NumGoroutine")) = true := by kernel_rfl
theorem fc139 : compF Go.Proofs.Try.prog 139 = some (18, r139, c139) := by rfl
theorem fn139 : (Go.Proofs.Try.prog.funcs[139]?).all (fun fn => !(fn.name == "runtime.NumGoroutine")) = true := by kernel_rfl
theorem fc140 : compF Go.Proofs.Try.prog 140 = some (9, r140, c140) := by rfl
theorem fn140 : (Go.Proofs.Try.prog.funcs[140]?).all (fun fn => !(fn.name == "runtime.NumGoroutine")) = true := by kernel_rfl
theorem fc141 : compF Go.Proofs.Try.prog 141 = some (21, r141, c141) := by rfl
theorem fn141 : (Go.Proofs.Try.prog.funcs[141]?).all (fun fn => !(fn.name == "runtime.NumGoroutine")) = true := by kernel_rfl
theorem fc142 : compF Go.Proofs.Try.prog 142 = some (38, r142, c142) := by rfl
theorem fn142 : (Go.Proofs.Try.prog.funcs[142]?).all (fun fn => !(fn.name == "runtime.NumGoroutine")) = true := by kernel_rfl
theorem fc143 : compF Go.Proofs.Try.prog 143 = some (27, r143, c143) := by rfl
theorem fn143 : (Go.Proofs.Try.prog.funcs[143]?).all (fun fn => !(fn.name == "runtime.NumGoroutine")) = true := by kernel_rfl
theorem fc144 : compF Go.Proofs.Try.prog 144 = some (14, r144, c144) := by rfl
theorem fn144 : (Go.Proofs.Try.prog.funcs[144]?).all (fun fn => !(fn.name == "runtime.NumGoroutine")) = true := by kernel_rfl
theorem fc145 : compF Go.Proofs.Try.prog 145 = some (5, r145, c145) := by rfl
theorem fn145 : (Go.Proofs.Try.prog.funcs[145]?).all (fun fn => !(fn.name == "runtime.NumGoroutine")) = true := by kernel_rfl
theorem fc146 : compF Go.Proofs.Try.prog 146 = some (6, r146, c146) := by rfl
theorem fn146 : (Go.Proofs.Try.prog.funcs[146]?).all (fun fn => !(fn.name == "runtime.NumGoroutine")) = true := by kernel_rfl
theorem fc147 : compF Go.Proofs.Try.prog 147 = some (27, r147, c147) := by rfl
theorem fn147 : (Go.Proofs.Try.prog.funcs[147]?).all (fun fn => !(fn.name == "runtime.NumGoroutine")) = true := by kernel_rfl
theorem fc148 : compF Go.Proofs.Try.prog 148 = some (27, r148, c148) := by rfl
theorem fn148 : (Go.Proofs.Try.prog.funcs[148]?).all (fun fn => !(fn.name == "runtime.NumGoroutine")) = true := by kernel_rfl
theorem fc149 : compF Go.Proofs.Try.prog 149 = some (19, r149, c149) := by rfl
theorem fn149 : (Go.Proofs.Try.prog.funcs[149]?).all (fun fn => !(fn.name == "runtime.NumGoroutine")) = true := by kernel_rfl
theorem fc156 : compF Go.Proofs.Try.prog 156 = some (25, r156, c156) := by rfl
theorem fn156 : (Go.Proofs.Try.prog.funcs[156]?).all (fun fn => !(fn.name == "runtime.NumGoroutine")) = true := by kernel_rfl
theorem fc157 : compF Go.Proofs.Try.prog 157 = some (5, r157, c157) := by rfl
theorem fn157 : (Go.Proofs.Try.prog.funcs[157]?).all (fun fn => !(fn.name == "runtime.NumGoroutine")) = true := by kernel_rfl
theorem fc169 : compF Go.Proofs.Try.prog 169 = some (8, r169, c169) := by rfl
theorem fn169 : (Go.Proofs.Try.prog.funcs[169]?).all (fun fn => !(fn.name == "runtime.NumGoroutine")) = true := by kernel_rfl
theorem fc170 : compF Go.Proofs.Try.prog 170 = some (6, r170, c170) := by rfl
theorem fn170 : (Go.Proofs.Try.prog.funcs[170]?).all (fun fn => !(fn.name == "runtime.NumGoroutine")) = true := by kernel_rfl
theorem fc171 : compF Go.Proofs.Try.prog 171 = some (8, r171, c171) := by rfl
theorem fn171 : (Go.Proofs.Try.prog.funcs[171]?).all (fun fn => !(fn.name == "runtime.NumGoroutine")) = true := by kernel_rfl
theorem fc172 : compF Go.Proofs.Try.prog 172 = some (44, r172, c172) := by rfl
theorem fn172 : (Go.Proofs.Try.prog.funcs[172]?).all (fun fn => !(fn.name == "runtime.NumGoroutine")) = true := by kernel_rfl
theorem fc173 : compF Go.Proofs.Try.prog 173 = some (9, r173, c173) := by rfl
theorem fn173 : (Go.Proofs.Try.prog.funcs[173]?).all (fun fn => !(fn.name == "runtime.NumGoroutine")) = true := by kernel_rfl
theorem fc174 : compF Go.Proofs.Try.prog 174 = some (12, r174, c174) := by rfl
theorem fn174 : (Go.Proofs.Try.prog.funcs[174]?).all (fun fn => !(fn.name == "runtime.NumGoroutine")) = true := by kernel_rfl
theorem fc175 : compF Go.Proofs.Try.prog 175 = some (6, r175, c175) := by rfl
theorem fn175 : (Go.Proofs.Try.prog.funcs[175]?).all (fun fn => !(fn.name == "runtime.NumGoroutine")) = true := by kernel_rfl
theorem fc176 : compF Go.Proofs.Try.prog 176 = some (14, r176, c176) := by rfl
theorem fn176 : (Go.Proofs.Try.prog.funcs[176]?).all (fun fn => !(fn.name == "runtime.NumGoroutine")) = true := by kernel_rfl
theorem fc179 : compF Go.Proofs.Try.prog 179 = some (12, r179, c179) := by rfl
theorem fn179 : (Go.Proofs.Try.prog.funcs[179]?).all (fun fn => !(fn.name == "runtime.NumGoroutine")) = true := by kernel_rfl
theorem fc184 : compF Go.Proofs.Try.prog 184 = some (28, r184, c184) := by rfl
theorem fn184 : (Go.Proofs.Try.prog.funcs[184]?).all (fun fn => !(fn.name == "runtime.NumGoroutine")) = true := by kernel_rfl
theorem fc185 : compF Go.Proofs.Try.prog 185 = some (11, r185, c185) := by rfl
theorem fn185 : (Go.Proofs.Try.prog.funcs[185]?).all (fun fn => !(fn.name == "runtime.NumGoroutine")) = true := by kernel_rfl
theorem fc186 : compF Go.Proofs.Try.prog 186 = some (6, r186, c186) := by rfl
theorem fn186 : (Go.Proofs.Try.prog.funcs[186]?).all (fun fn => !(fn.name == "runtime.NumGoroutine")) = true := by kernel_rfl
theorem fc187 : compF Go.Proofs.Try.prog 187 = some (19, r187, c187) := by rfl
theorem fn187 : (Go.Proofs.Try.prog.funcs[187]?).all (fun fn => !(fn.name == "runtime.NumGoroutine")) = true := by kernel_rfl
theorem fc3 : compF Go.Proofs.Try.prog 3 = some (149, r3, c3) := by rfl
theorem fn3 : (Go.Proofs.Try.prog.funcs[3]?).all (fun fn => !(fn.name == "runtime.NumGoroutine")) = true := by kernel_rfl
theorem fc4 : compF Go.Proofs.Try.prog 4 = some (78, r4, c4) := by rfl
theorem fn4 : (Go.Proofs.Try.prog.funcs[4]?).all (fun fn => !(fn.name == "runtime.NumGoroutine")) = true := by kernel_rfl
theorem fc5 : compF Go.Proofs.Try.prog 5 = some (154, r5, c5) := by rfl
theorem fn5 : (Go.Proofs.Try.prog.funcs[5]?).all (fun fn => !(fn.name == "runtime.NumGoroutine")) = true := by kernel_rfl
theorem fc19 : compF Go.Proofs.Try.prog 19 = some (152, r19, c19) := by rfl
theorem fn19 : (Go.Proofs.Try.prog.funcs[19]?).all (fun fn => !(fn.name == "runtime.NumGoroutine")) = true := by kernel_rfl
theorem fc31 : compF Go.Proofs.Try.prog 31 = some (34, r31, c31) := by rfl
theorem fn31 : (Go.Proofs.Try.prog.funcs[31]?).all (fun fn => !(fn.name == "runtime.NumGoroutine")) = true := by kernel_rfl
theorem fc77 : compF Go.Proofs.Try.prog 77 = some (29, r77, c77) := by rfl
theorem fn77 : (Go.Proofs.Try.prog.funcs[77]?).all (fun fn => !(fn.name == "runtime.NumGoroutine")) = true := by kernel_rfl
theorem follows : Go.Proofs.Try.prog.follows .mixedOrders = true := by kernel_rfl
theorem fc101 : compF Go.Proofs.Try.prog 101 = some (8, r101, c101) := by rfl
theorem fn101 : (Go.Proofs.Try.prog.funcs[101]?).all (fun fn => !(fn.name == "runtime.NumGoroutine")) = true := by kernel_rfl
theorem g101 : GoFn Go.Proofs.Try.prog 101 8 [.tmp 2] (cloC 4 64 zI) := by
  have h := go_ok fc101 fn101
  rw [t_cloI] at h
  exact h
theorem fc91 : compF Go.Proofs.Try.prog 91 = some (8, r91, c91) := by rfl
theorem fn91 : (Go.Proofs.Try.prog.funcs[91]?).all (fun fn => !(fn.name == "runtime.NumGoroutine")) = true := by kernel_rfl
theorem g91 : GoFn Go.Proofs.Try.prog 91 8 [.tmp 2] (cloC 2 32 zK) := by
  have h := go_ok fc91 fn91
  rw [t_cloK] at h
  exact h
theorem fc92 : compF Go.Proofs.Try.prog 92 = some (8, r92, c92) := by rfl
theorem fn92 : (Go.Proofs.Try.prog.funcs[92]?).all (fun fn => !(fn.name == "runtime.NumGoroutine")) = true := by kernel_rfl
theorem g92 : GoFn Go.Proofs.Try.prog 92 8 [.tmp 2] (cloC 1 1 [.sc (.int .u8 0)]) := by
  have h := go_ok fc92 fn92
  rw [t_cloB] at h
  exact h
theorem ov150 : PrimOk Go.Proofs.Try.prog 150 ovP := ovP_ok ⟨_, 31, 4, _, _, Go.Proofs.Try.func150, by kernel_rfl, by kernel_rfl, by kernel_rfl, by kernel_rfl, Go.Proofs.Try.underlying31, rfl⟩
theorem ov153 : PrimOk Go.Proofs.Try.prog 153 ovP := ovP_ok ⟨_, 32, 4, _, _, Go.Proofs.Try.func153, by kernel_rfl, by kernel_rfl, by kernel_rfl, by kernel_rfl, Go.Proofs.Try.underlying32, rfl⟩
theorem fc102 : compF Go.Proofs.Try.prog 102 = some (95, r102, c102) := by rfl
theorem fn102 : (Go.Proofs.Try.prog.funcs[102]?).all (fun fn => !(fn.name == "runtime.NumGoroutine")) = true := by kernel_rfl
theorem g102 : GoFn Go.Proofs.Try.prog 102 95 [.tmp 6] (insC 4 64 zI 150 151) := by
  have h := go_ok fc102 fn102
  rw [t_insI] at h
  exact h
theorem fc152 : compF Go.Proofs.Try.prog 152 = some (95, r152, c152) := by rfl
theorem fn152 : (Go.Proofs.Try.prog.funcs[152]?).all (fun fn => !(fn.name == "runtime.NumGoroutine")) = true := by kernel_rfl
theorem g152 : GoFn Go.Proofs.Try.prog 152 95 [.tmp 6] (insC 2 32 zK 153 154) := by
  have h := go_ok fc152 fn152
  rw [t_insK] at h
  exact h
theorem fc103 : compF Go.Proofs.Try.prog 103 = some (224, r103, c103) := by rfl
theorem fn103 : (Go.Proofs.Try.prog.funcs[103]?).all (fun fn => !(fn.name == "runtime.NumGoroutine")) = true := by kernel_rfl
theorem g103 : GoFn Go.Proofs.Try.prog 103 224 [.tmp 8] (repC 2 32 zK 152 153 154 155) := by
  have h := go_ok fc103 fn103
  rw [t_repK] at h
  exact h
theorem fc137 : compF Go.Proofs.Try.prog 137 = some (33, r137, c137) := by rfl
theorem fn137 : (Go.Proofs.Try.prog.funcs[137]?).all (fun fn => !(fn.name == "runtime.NumGoroutine")) = true := by kernel_rfl
theorem g137 : GoFn Go.Proofs.Try.prog 137 33 [.tmp 6] (delC 4 64 zI) := by
  have h := go_ok fc137 fn137
  rw [t_delI] at h
  exact h
def ftO : FT
  | 150 => some (.prim ovP)
  | 153 => some (.prim ovP)
  | _ => none
theorem ftO_ok : FTOk Go.Proofs.Try.prog ftO := by
  intro k d h
  unfold ftO at h
  split at h
  · cases h; exact ov150
  · cases h; exact ov153
  · cases h
theorem p102 : PrimOk Go.Proofs.Try.prog 102 (insP 4 64) := slP_ok follows ftO_ok g102 (insP_sl (ft := ftO) rfl rfl (by decide))
theorem p152 : PrimOk Go.Proofs.Try.prog 152 (insP 2 32) := slP_ok follows ftO_ok g152 (insP_sl (ft := ftO) rfl rfl (by decide))
def ftO2 : FT
  | 153 => some (.prim ovP)
  | 152 => some (.prim (insP 2 32))
  | _ => none
theorem ftO2_ok : FTOk Go.Proofs.Try.prog ftO2 := by
  intro k d h
  unfold ftO2 at h
  split at h
  · cases h; exact ov153
  · cases h; exact p152
  · cases h
theorem p101 : PPrimOk Go.Proofs.Try.prog 101 (cloF 4 64) := cloF_ok follows g101
theorem p91 : PrimOk Go.Proofs.Try.prog 91 (cloP 2 32) := cloP_ok follows g91
theorem p92 : PPrimOk Go.Proofs.Try.prog 92 (cloF 1 1) := cloF_ok follows g92
theorem p103 : PrimOk Go.Proofs.Try.prog 103 (repP 2 32) := slP_ok follows ftO2_ok g103 (repP_sl (ft := ftO2) rfl rfl rfl (by decide))
theorem p137 : PrimOk Go.Proofs.Try.prog 137 (delP 4 64) := slP_ok follows ftO_ok g137 (delP_sl (ft := ftO) (by decide))
theorem ft_ok : FTOk Go.Proofs.Try.prog ft := by
  intro k d h
  unfold ft at h
  split at h
  · cases h; exact go_ok fc18 fn18
  · cases h; exact go_ok fc20 fn20
  · cases h; exact go_ok fc21 fn21
  · cases h; exact go_ok fc22 fn22
  · cases h; exact go_ok fc23 fn23
  · cases h; exact go_ok fc24 fn24
  · cases h; exact go_ok fc25 fn25
  · cases h; exact go_ok fc26 fn26
  · cases h; exact go_ok fc27 fn27
  · cases h; exact go_ok fc28 fn28
  · cases h; exact go_ok fc29 fn29
  · cases h; exact go_ok fc30 fn30
  · cases h; exact go_ok fc32 fn32
  · cases h; exact go_ok fc33 fn33
  · cases h; exact go_ok fc34 fn34
  · cases h; exact go_ok fc75 fn75
  · cases h; exact go_ok fc76 fn76
  · cases h; exact go_ok fc78 fn78
  · cases h; exact go_ok fc79 fn79
  · cases h; exact go_ok fc80 fn80
  · cases h; exact go_ok fc81 fn81
  · cases h; exact go_ok fc82 fn82
  · cases h; exact go_ok fc83 fn83
  · cases h; exact go_ok fc84 fn84
  · cases h; exact go_ok fc85 fn85
  · cases h; exact go_ok fc86 fn86
  · cases h; exact go_ok fc87 fn87
  · cases h; exact go_ok fc88 fn88
  · cases h; exact go_ok fc89 fn89
  · cases h; exact go_ok fc90 fn90
  · cases h; exact go_ok fc93 fn93
  · cases h; exact go_ok fc94 fn94
  · cases h; exact go_ok fc95 fn95
  · cases h; exact go_ok fc96 fn96
  · cases h; exact go_ok fc97 fn97
  · cases h; exact go_ok fc98 fn98
  · cases h; exact go_ok fc99 fn99
  · cases h; exact go_ok fc100 fn100
  · cases h; exact go_ok fc104 fn104
  · cases h; exact go_ok fc134 fn134
  · cases h; exact go_ok fc135 fn135
  · cases h; exact go_ok fc136 fn136
  · cases h; exact go_ok fc138 fn138
  · cases h; exact go_ok fc139 fn139
  · cases h; exact go_ok fc140 fn140
  · cases h; exact go_ok fc141 fn141
  · cases h; exact go_ok fc142 fn142
  · cases h; exact go_ok fc143 fn143
  · cases h; exact go_ok fc144 fn144
  · cases h; exact go_ok fc145 fn145
  · cases h; exact go_ok fc146 fn146
  · cases h; exact go_ok fc147 fn147
  · cases h; exact go_ok fc148 fn148
  · cases h; exact go_ok fc149 fn149
  · cases h; exact go_ok fc156 fn156
  · cases h; exact go_ok fc157 fn157
  · cases h; exact go_ok fc169 fn169
  · cases h; exact go_ok fc170 fn170
  · cases h; exact go_ok fc171 fn171
  · cases h; exact go_ok fc172 fn172
  · cases h; exact go_ok fc173 fn173
  · cases h; exact go_ok fc174 fn174
  · cases h; exact go_ok fc175 fn175
  · cases h; exact go_ok fc176 fn176
  · cases h; exact go_ok fc179 fn179
  · cases h; exact go_ok fc184 fn184
  · cases h; exact go_ok fc185 fn185
  · cases h; exact go_ok fc186 fn186
  · cases h; exact go_ok fc187 fn187
  · cases h; exact p101
  · cases h; exact p91
  · cases h; exact p92
  · cases h; exact cmp_ok Go.Proofs.Try.func183 (by kernel_rfl) (by kernel_rfl) (by kernel_rfl) (by kernel_rfl)
  · cases h; exact ov150
  · cases h; exact ov153
  · cases h; exact p102
  · cases h; exact p152
  · cases h; exact p103
  · cases h; exact p137
  · cases h
theorem ftL_ok : FTOk Go.Proofs.Try.prog ftL := by
  intro k d h
  unfold ftL at h
  split at h
  · cases h; exact go_ok fc3 fn3
  · cases h; exact go_ok fc4 fn4
  · cases h; exact go_ok fc5 fn5
  · cases h; exact go_ok fc19 fn19
  · cases h; exact go_ok fc31 fn31
  · cases h; exact go_ok fc77 fn77
  · exact ft_ok _ _ h
theorem ftW_ok : FTOk Go.Proofs.Try.prog ftW := by
  intro k d h
  unfold ftW at h
  split at h
  · cases h; exact goP_ok follows ft_ok ⟨_, _, _, rfl⟩
  · cases h; exact cloD_ok follows g101
  · cases h; exact p102
  · cases h
theorem ftV_ok : FTOk Go.Proofs.Try.prog ftV := by
  intro k d h
  unfold ftV at h
  split at h
  · cases h; exact goP_ok follows ft_ok ⟨_, _, _, rfl⟩
  · cases h; exact cloP_ok follows g101
  · cases h; exact p137
  · cases h; exact go_ok fc77 fn77
  · cases h
theorem ftX_ok : FTOk Go.Proofs.Try.prog ftX := by
  intro k d h
  unfold ftX at h
  split at h
  · rename_i e
    subst e
    cases h
    exact slD_ok follows ftW_ok (go_ok fc31 fn31) withP_sl
  · split at h
    · rename_i e
      subst e
      cases h
      exact goP_ok follows ftV_ok ⟨_, _, _, rfl⟩
    · exact ftL_ok _ _ h
end Go.VI
