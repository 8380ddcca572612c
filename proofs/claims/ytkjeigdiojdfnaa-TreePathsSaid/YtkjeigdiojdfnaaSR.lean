/- VI, part SR: All. -/
import Derived.Test.YtkjeigdiojdfnaaSQ
set_option linter.unusedVariables false
set_option linter.unusedSimpArgs false
set_option maxRecDepth 100000
namespace Go.VI
attribute [local congr] AW_congr OW_congr DW_congr NW_congr VW_congr GW_congr PW_congr KW_congr ite_congr' GV_congr CV_congr

/-- Through the kids, till an error is told. -/
def goM (v : PlaceM → WM → Int × WM) (p : PlaceM) (n : NodeM) : List Nat → WM → Int × WM
  | [], w => (0, w)
  | k :: ks, w => if (v (kidM p n k) w).1 ≠ 0 then v (kidM p n k) w else goM v p n ks (v (kidM p n k) w).2
/-- A place, and all below it. -/
def visitM (l : List NamedM) : Nat → PlaceM → WM → Int × WM
  | 0, _, w => (130, w)
  | d + 1, p, w => if (nodeW l p w).2.1 ≠ 0 then ((nodeW l p w).2.1, (nodeW l p w).2.2) else goM (visitM l d) p (nodeW l p w).1 (List.range (nodeW l p w).1.kids.length) (nodeW l p w).2.2
/-- What a walker holds is bounded. -/
structure okW (l : List NamedM) (w : WM) : Prop where
  nd : w.refs.Nodup
  mem : ∀ r ∈ w.refs, ∃ x ∈ l, x.ref = r
  len : w.items.length ≤ 1000 * w.refs.length
theorem okW_node {l : List NamedM} (ht : tinyL l) {p : PlaceM} {w : WM} (h : okW l w) : okW l (nodeW l p w).2.2 := by
  unfold nodeW
  split
  · exact h
  · split
    · exact h
    · rename_i _ he
      split
      · exact h
      · rename_i hc
        simp only [Bool.or_eq_true, not_or, Bool.not_eq_true] at hc
        have hnm : p.ref ∉ w.refs := by simpa using hc.1
        refine ⟨?_, fun r hr => ?_, ?_⟩
        · exact List.nodup_append.2 ⟨h.nd, by simp, fun a ha b hb => by
            rw [List.mem_singleton] at hb
            subst hb
            exact fun e => hnm (e ▸ ha)⟩
        · rcases List.mem_append.1 hr with hr | hr
          · exact h.mem r hr
          · rw [List.mem_singleton] at hr
            subst hr
            cases hf : l.find? (fun x => x.ref == p.ref) with
            | none => simp [nodeM, hf] at he
            | some x => exact ⟨x, List.mem_of_find?_eq_some hf, by simpa using List.find?_some hf⟩
        · have := (tiny_node ht p.ref).1
          have := h.len
          simp only [List.length_append, List.length_singleton]
          split
          · rw [List.length_append]; omega
          · omega
theorem goM_inv {P : WM → Prop} {v : PlaceM → WM → Int × WM} (hv : ∀ p w, P w → P (v p w).2) (p : PlaceM) (n : NodeM) : ∀ (ks : List Nat) (w : WM), P w → P (goM v p n ks w).2
  | [], w, h => h
  | k :: ks, w, h => by
    rw [goM]
    split
    · exact hv _ _ h
    · exact goM_inv hv p n ks _ (hv _ _ h)
theorem okW_visit {l : List NamedM} (ht : tinyL l) : ∀ (d : Nat) (p : PlaceM) (w : WM), okW l w → okW l (visitM l d p w).2
  | 0, _, w, h => h
  | d + 1, p, w, h => by
    rw [visitM]
    split
    · exact okW_node ht h
    · exact goM_inv (okW_visit ht d) p _ _ _ (okW_node ht h)
theorem nd_le : ∀ (a b : List Int), a.Nodup → (∀ x ∈ a, x ∈ b) → a.length ≤ b.length
  | [], _, _, _ => Nat.zero_le _
  | x :: a, b, hn, h => by
    have hx_ := h x List.mem_cons_self
    have h1 := nd_le a (b.erase x) (List.nodup_cons.1 hn).2 fun y hy => (List.mem_erase_of_ne (fun (e : y = x) => (List.nodup_cons.1 hn).1 (e ▸ hy))).2 (h y (List.mem_cons_of_mem _ hy))
    rw [List.length_erase_of_mem hx_] at h1
    have : 0 < b.length := List.length_pos_of_mem hx_
    rw [List.length_cons]; omega
theorem okW.le {l : List NamedM} {w : WM} (h : okW l w) : w.refs.length ≤ l.length := by
  have := nd_le w.refs (l.map (·.ref)) h.nd fun x hx => by
    obtain ⟨y, hy, rfl⟩ := h.mem x hx
    exact List.mem_map.2 ⟨y, hy, rfl⟩
  simpa using this

theorem okP_kid {p : PlaceM} {n : NodeM} (hp : okP_ p) (hn : okN n) (k : Nat) : okP_ (kidM p n k) := by
  have hk : ∀ j : Nat, okB (((n.kids[j]?).map (·.key)).getD []) := fun j => by
    cases h : n.kids[j]? with
    | none => exact ok_nil
    | some x => exact hn.k.h x (List.mem_of_getElem? h)
  constructor
  · show okB (if 0 < k then _ else _)
    split
    · exact hk k
    · exact hp.l
  · show okB (if k + 1 < n.kids.length then _ else _)
    split
    · exact hk (k + 1)
    · exact hp.h
/-- The function that visits. -/
def visitF (i6 i7 : Nat) : AV := .fn (.func 54) [] [.ptr i6 0 0, .ptr i7 0 0]
theorem l54 {l : List NamedM} {v : PlaceM → WM → Int × WM} {wid mid i6 i7 i3 i5 : Nat} {p : PlaceM} {a b : AV} {n : NodeM} (ha : NB a p.lk) (hb : NB b p.hk) (hp : okP_ p) (hn : okN n) (hd : 1 ≤ p.deep ∧ p.deep ≤ 12)
   (hne : i6 ≠ wid ∧ i7 ≠ wid ∧ i3 ≠ wid ∧ i5 ≠ wid) (hok : ∀ p w, okW l w → okW l (v p w).2)
   (hv : ∀ (k : Nat) (w : WM) (H : Heap), okW l w → WS H l wid mid w → H.get i6 = some (.box false [.ptr wid 0 0]) → H.get i7 = some (.box false [visitF i6 i7]) →
     ∃ H', callL ft (visitF i6 i7) [.agg (placeE (kidM p n k))] H = some (int (v (kidM p n k) w).1, H') ∧ WS H' l wid mid (v (kidM p n k) w).2 ∧ Keep wid H H')
   (R : Int × WM) (K0 : Heap) {Q : AExit → Env → Heap → Prop}
   (hex : ∀ f' K, f' 6 = int R.1 → WS K l wid mid R.2 → Keep wid K0 K → Q (.exit 0) (mkE 32 f') (hx K [])) :
   ∀ (j k : Nat) (w : WM) (e : Int) (K : Heap) (f : Nat → AV), k + j = n.kids.length → R = (if e = 0 then goM v p n (List.range' k j) w else (e, w)) → okW l w → WS K l wid mid w → Keep wid K0 K →
    K.get i6 = some (.box false [.ptr wid 0 0]) → K.get i7 = some (.box false [visitF i6 i7]) → K.get i3 = some (.box false (placeC p a b)) → K.get i5 = some (.box false (nodeC n)) →
    f 2 = .ptr i7 0 0 → f 3 = .ptr i3 0 0 → f 5 = .ptr i5 0 0 → f 6 = int e → f 7 = int k →
    AW ft (.loop c54L0) (mkE 32 f) (hx K []) Q := by
  intro j
  have hi := hn.k.n
  unfold MX at hi
  induction j with
  | zero =>
    intro k w e K f hd' hR ho hw hK g6 g7 g3 g5 h2 h3 h5 h6 h7
    have g : ((k : Int) < n.kids.length) = False := eq_false (by omega)
    have o5 := get_old g5
    rw [AW_loop]
    unfold c54L0
    have hR' : R = (e, w) := by
      rw [hR]
      split
      · rename_i h; rw [h]; rfl
      · rfl
    simp only [↓vp, vq0, vq1, vq2, vq3, vr0, vr1, vr2, vr3, vr4, vr5, vr6, vr7, vr8, vr9, vr10, vr11, vr12, vr13, vr14, vr15, vr16, vr17, vr18, vr19, vr20, vr21, vr22, vr23, vr24, vr25, vr26, vr27, vr28, vr29, vr30, vr31, vr32, vr33, vr34, opS, fpS, okP, pack, nAl, allocA, shId, leaves, fillA, fillR, splice, Nat.reduceLT, Nat.reduceEqDiff, Nat.reduceLeDiff, Nat.reduceAdd, Nat.reduceSub, Nat.reduceMul, Int.reduceBEq, Int.reduceBNe, Int.reduceLT, Int.reduceLE, Int.reduceEq, reduceIte, reduceCtorEq, da, int, boolA, h5, h7, o5, g]
    refine hex _ _ ?_ ?_ hK
    · simp only [↓vp, vq0, vq1, vq2, vq3, vr0, vr1, vr2, vr3, vr4, vr5, vr6, vr7, vr8, vr9, vr10, vr11, vr12, vr13, vr14, vr15, vr16, vr17, vr18, vr19, vr20, vr21, vr22, vr23, vr24, vr25, vr26, vr27, vr28, vr29, vr30, vr31, vr32, vr33, vr34, opS, fpS, okP, pack, nAl, allocA, shId, leaves, fillA, fillR, splice, Nat.reduceLT, Nat.reduceEqDiff, Nat.reduceLeDiff, Nat.reduceAdd, Nat.reduceSub, Nat.reduceMul, Int.reduceBEq, Int.reduceBNe, Int.reduceLT, Int.reduceLE, Int.reduceEq, reduceIte, reduceCtorEq, da, int, boolA, h6, hR']
    · rw [hR']; exact hw
  | succ j ih =>
    intro k w e K f hd' hR ho hw hK g6 g7 g3 g5 h2 h3 h5 h6 h7
    have g : ((k : Int) < n.kids.length) = True := eq_true (by omega)
    have gk : k < n.kids.length := by omega
    have w1 := wrap_succ (show k < 9223372036854775807 by omega)
    have o5 := get_old g5
    have o7 := get_old g7
    have o3 := get_old g3
    have cl : (placeC p a b).length = 6 := rfl
    have c6 : (placeC p a b).take 6 = placeC p a b := rfl
    rw [AW_loop]
    unfold c54L0
    cases e1 : (e == 0) with
    | false =>
      have e1' : ¬ e = 0 := by simpa using e1
      rw [if_neg e1'] at hR
      simp only [↓vp, vq0, vq1, vq2, vq3, vr0, vr1, vr2, vr3, vr4, vr5, vr6, vr7, vr8, vr9, vr10, vr11, vr12, vr13, vr14, vr15, vr16, vr17, vr18, vr19, vr20, vr21, vr22, vr23, vr24, vr25, vr26, vr27, vr28, vr29, vr30, vr31, vr32, vr33, vr34, opS, fpS, okP, pack, nAl, allocA, shId, leaves, fillA, fillR, splice, Nat.reduceLT, Nat.reduceEqDiff, Nat.reduceLeDiff, Nat.reduceAdd, Nat.reduceSub, Nat.reduceMul, Int.reduceBEq, Int.reduceBNe, Int.reduceLT, Int.reduceLE, Int.reduceEq, reduceIte, reduceCtorEq, da, int, boolA, h5, h6, h7, o5, g, e1]
      refine hex _ _ ?_ ?_ hK
      · simp only [↓vp, vq0, vq1, vq2, vq3, vr0, vr1, vr2, vr3, vr4, vr5, vr6, vr7, vr8, vr9, vr10, vr11, vr12, vr13, vr14, vr15, vr16, vr17, vr18, vr19, vr20, vr21, vr22, vr23, vr24, vr25, vr26, vr27, vr28, vr29, vr30, vr31, vr32, vr33, vr34, opS, fpS, okP, pack, nAl, allocA, shId, leaves, fillA, fillR, splice, Nat.reduceLT, Nat.reduceEqDiff, Nat.reduceLeDiff, Nat.reduceAdd, Nat.reduceSub, Nat.reduceMul, Int.reduceBEq, Int.reduceBNe, Int.reduceLT, Int.reduceLE, Int.reduceEq, reduceIte, reduceCtorEq, da, int, boolA, h6, hR]
      · rw [hR]; exact hw
    | true =>
      have e1' : e = 0 := by simpa using e1
      subst e1'
      rw [if_pos rfl, List.range'_succ, goM] at hR
      have x56 := fun K L Q => k56 ha hb hn ⟨by omega, by omega⟩ gk (K := K) (L := L) (Q := Q)
      have pv : pureV ft (.fn (.func 56) [] []) [.agg (placeC p a b), .agg (nodeC n), .sc (.int .i64 k)] = true := by
        rcases ha with rfl | ⟨rfl, h⟩ <;> rcases hb with rfl | ⟨rfl, h'⟩ <;> rfl
      simp only [int] at x56
      simp only [visitF] at o7
      simp only [↓vp, vq0, vq1, vq2, vq3, vr0, vr1, vr2, vr3, vr4, vr5, vr6, vr7, vr8, vr9, vr10, vr11, vr12, vr13, vr14, vr15, vr16, vr17, vr18, vr19, vr20, vr21, vr22, vr23, vr24, vr25, vr26, vr27, vr28, vr29, vr30, vr31, vr32, vr33, vr34, opS, fpS, okP, pack, nAl, allocA, shId, leaves, fillA, fillR, splice, Nat.reduceLT, Nat.reduceEqDiff, Nat.reduceLeDiff, Nat.reduceAdd, Nat.reduceSub, Nat.reduceMul, Int.reduceBEq, Int.reduceBNe, Int.reduceLT, Int.reduceLE, Int.reduceEq, reduceIte, reduceCtorEq, da, int, boolA, h2, h3, h5, h6, h7, o5, o7, o3, g, cl, c6, x56, pv]
      rw [hx_nil K]
      refine KW_ex (hv k w K ho hw g6 g7) (fun K1 hP => ?_)
      obtain ⟨hW1, hK1⟩ := hP
      rw [← hx_nil K1]
      simp only [↓vp, vq0, vq1, vq2, vq3, vr0, vr1, vr2, vr3, vr4, vr5, vr6, vr7, vr8, vr9, vr10, vr11, vr12, vr13, vr14, vr15, vr16, vr17, vr18, vr19, vr20, vr21, vr22, vr23, vr24, vr25, vr26, vr27, vr28, vr29, vr30, vr31, vr32, vr33, vr34, opS, fpS, okP, pack, nAl, allocA, shId, leaves, fillA, fillR, splice, Nat.reduceLT, Nat.reduceEqDiff, Nat.reduceLeDiff, Nat.reduceAdd, Nat.reduceSub, Nat.reduceMul, Int.reduceBEq, Int.reduceBNe, Int.reduceLT, Int.reduceLE, Int.reduceEq, reduceIte, reduceCtorEq, da, int, boolA, h2, h3, h5, h6, h7, g, w1]
      refine ih (k + 1) (v (kidM p n k) w).2 (v (kidM p n k) w).1 K1 _ (by omega) ?_ (hok _ _ ho) hW1 (hK.trans hK1) (hK1.2 _ _ _ hne.1 g6) (hK1.2 _ _ _ hne.2.1 g7) (hK1.2 _ _ _ hne.2.2.1 g3) (hK1.2 _ _ _ hne.2.2.2 g5) ?_ ?_ ?_ ?_ ?_
      · rw [hR]
        by_cases h0 : (v (kidM p n k) w).1 = 0
        · rw [if_neg (by simpa using h0), if_pos h0]
        · rw [if_pos h0, if_neg h0]
      all_goals simp only [↓vp, vq0, vq1, vq2, vq3, vr0, vr1, vr2, vr3, vr4, vr5, vr6, vr7, vr8, vr9, vr10, vr11, vr12, vr13, vr14, vr15, vr16, vr17, vr18, vr19, vr20, vr21, vr22, vr23, vr24, vr25, vr26, vr27, vr28, vr29, vr30, vr31, vr32, vr33, vr34, opS, fpS, okP, pack, nAl, allocA, shId, leaves, fillA, fillR, splice, Nat.reduceLT, Nat.reduceEqDiff, Nat.reduceLeDiff, Nat.reduceAdd, Nat.reduceSub, Nat.reduceMul, Int.reduceBEq, Int.reduceBNe, Int.reduceLT, Int.reduceLE, Int.reduceEq, reduceIte, reduceCtorEq, da, int, boolA, h2, h3, h5]

theorem nodeR_len (n : NodeM) (e : Int) : (nodeR n e).length = 3 := by unfold nodeR; split <;> rfl
theorem nodeR_one (n : NodeM) (e : Int) : oneAll (nodeR n e) = true := by unfold nodeR; split <;> rfl
theorem nodeR_take (n : NodeM) (e : Int) : (nodeR n e).take 3 = nodeR n e := by unfold nodeR; split <;> rfl
theorem nodeW_ok {l : List NamedM} (hl : okL l) (p : PlaceM) (w : WM) : okN (nodeW l p w).1 := by
  have h0 : okN noNode := ⟨⟨by decide, fun _ h => by cases h⟩, ⟨by decide, fun _ h => by cases h⟩⟩
  unfold nodeW
  split
  · exact h0
  · split
    · exact h0
    · split
      · exact h0
      · exact ok_node hl _
theorem nodeW_deep {l : List NamedM} {p : PlaceM} {w : WM} (h : 12 < p.deep) : (nodeW l p w).2.1 = 130 ∧ (nodeW l p w).2.2 = w := by
  unfold nodeW
  rw [if_pos h]
  exact ⟨rfl, rfl⟩
theorem s54 {l : List NamedM} (hl : okL l) (ht : tinyL l) (hlen : l.length ≤ 1000) {wid mid i6 i7 : Nat} (hne : i6 ≠ wid ∧ i7 ≠ wid) : ∀ (d : Nat) (p : PlaceM) (a b : AV) (w : WM) (H : Heap), NB a p.lk → NB b p.hk → okP_ p → p.deep + d = 13 → 1 ≤ p.deep → okW l w → WS H l wid mid w →
    H.get i6 = some (.box false [.ptr wid 0 0]) → H.get i7 = some (.box false [visitF i6 i7]) →
    ∃ H', callL ft (visitF i6 i7) [.agg (placeC p a b)] H = some (int (visitM l d p w).1, H') ∧ WS H' l wid mid (visitM l d p w).2 ∧ Keep wid H H' := by
  intro d
  induction d with
  | zero =>
    intro p a b w H ha hb hp hd h1 ho hw g6 g7
    refine call_oE rfl (by simp) ?_
    have cl : (placeC p a b).length = 6 := rfl
    have c6 : (placeC p a b).take 6 = placeC p a b := rfl
    have ca : oneAll (placeC p a b) = true := by
      show (true && (true && (true && (a.one && (true && (b.one && true)))))) = true
      rw [ha.one, hb.one]; rfl
    have o6 := get_old g6
    have hle := ho.le
    have hlen' := ho.len
    obtain ⟨q1, q2⟩ := nodeW_deep (l := l) (w := w) (show 12 < p.deep by omega)
    have hS := s55 hl ht ha hb hp (hw.hx [.box false (placeC p a b)]) (by omega) (by omega)
    have hR : nodeR (nodeW l p w).1 130 = [boolA false, .sc (.slice none 0 0), .sc (.slice none 0 0)] := by unfold nodeR; rw [if_neg (by decide)]
    rw [q1, q2, hR] at hS
    unfold c54 r54
    simp only [↓vp, vq0, vq1, vq2, vq3, vr0, vr1, vr2, vr3, vr4, vr5, vr6, vr7, vr8, vr9, vr10, vr11, vr12, vr13, vr14, vr15, vr16, vr17, vr18, vr19, vr20, vr21, vr22, vr23, vr24, vr25, vr26, vr27, vr28, vr29, vr30, vr31, vr32, vr33, vr34, opS, fpS, okP, pack, nAl, allocA, shId, leaves, fillA, fillR, splice, Nat.reduceLT, Nat.reduceEqDiff, Nat.reduceLeDiff, Nat.reduceAdd, Nat.reduceSub, Nat.reduceMul, Int.reduceBEq, Int.reduceBNe, Int.reduceLT, Int.reduceLE, Int.reduceEq, reduceIte, reduceCtorEq, da, int, boolA, cl, c6, ca, o6]
    refine KW_ex hS (fun H1 hP => ?_)
    obtain ⟨hW1, hK1⟩ := hP
    rw [← hx_nil H1]
    simp only [↓vp, vq0, vq1, vq2, vq3, vr0, vr1, vr2, vr3, vr4, vr5, vr6, vr7, vr8, vr9, vr10, vr11, vr12, vr13, vr14, vr15, vr16, vr17, vr18, vr19, vr20, vr21, vr22, vr23, vr24, vr25, vr26, vr27, vr28, vr29, vr30, vr31, vr32, vr33, vr34, opS, fpS, okP, pack, nAl, allocA, shId, leaves, fillA, fillR, splice, Nat.reduceLT, Nat.reduceEqDiff, Nat.reduceLeDiff, Nat.reduceAdd, Nat.reduceSub, Nat.reduceMul, Int.reduceBEq, Int.reduceBNe, Int.reduceLT, Int.reduceLE, Int.reduceEq, reduceIte, reduceCtorEq, da, int, boolA]
    rw [AW_loop]
    unfold c54L0 c54R1
    simp only [↓vp, vq0, vq1, vq2, vq3, vr0, vr1, vr2, vr3, vr4, vr5, vr6, vr7, vr8, vr9, vr10, vr11, vr12, vr13, vr14, vr15, vr16, vr17, vr18, vr19, vr20, vr21, vr22, vr23, vr24, vr25, vr26, vr27, vr28, vr29, vr30, vr31, vr32, vr33, vr34, opS, fpS, okP, pack, nAl, allocA, shId, leaves, fillA, fillR, splice, Nat.reduceLT, Nat.reduceEqDiff, Nat.reduceLeDiff, Nat.reduceAdd, Nat.reduceSub, Nat.reduceMul, Int.reduceBEq, Int.reduceBNe, Int.reduceLT, Int.reduceLE, Int.reduceEq, reduceIte, reduceCtorEq, da, int, boolA, RetE_go, resT, resC, resN, retV1]
    exact ⟨rfl, hW1.hx _, (Keep.hx _).trans (hK1.trans (Keep.hx _))⟩
  | succ d ih =>
    intro p a b w H ha hb hp hd h1 ho hw g6 g7
    refine call_oE rfl (by simp) ?_
    have cl : (placeC p a b).length = 6 := rfl
    have c6 : (placeC p a b).take 6 = placeC p a b := rfl
    have ca : oneAll (placeC p a b) = true := by
      show (true && (true && (true && (a.one && (true && (b.one && true)))))) = true
      rw [ha.one, hb.one]; rfl
    have o6 := get_old g6
    have hle := ho.le
    have hlen' := ho.len
    have hS := s55 hl ht ha hb hp (hw.hx [.box false (placeC p a b)]) (by omega) (by omega)
    have hn := nodeW_ok hl p w
    have ho1 := okW_node ht (p := p) ho
    have hV : visitM l (d + 1) p w = if (nodeW l p w).2.1 ≠ 0 then ((nodeW l p w).2.1, (nodeW l p w).2.2) else goM (visitM l d) p (nodeW l p w).1 (List.range (nodeW l p w).1.kids.length) (nodeW l p w).2.2 := rfl
    rw [hV]
    clear hV
    generalize nodeW l p w = N at *
    obtain ⟨n, e, w1⟩ := N
    simp only at hS hn ho1 ⊢
    have r1 := nodeR_len n e
    have r2 := nodeR_one n e
    have r3 := nodeR_take n e
    have lw := Heap.get_lt g6
    obtain ⟨sI, sR, gw, _⟩ := hw.ex
    have lwid := Heap.get_lt gw
    unfold c54 r54
    simp only [↓vp, vq0, vq1, vq2, vq3, vr0, vr1, vr2, vr3, vr4, vr5, vr6, vr7, vr8, vr9, vr10, vr11, vr12, vr13, vr14, vr15, vr16, vr17, vr18, vr19, vr20, vr21, vr22, vr23, vr24, vr25, vr26, vr27, vr28, vr29, vr30, vr31, vr32, vr33, vr34, opS, fpS, okP, pack, nAl, allocA, shId, leaves, fillA, fillR, splice, Nat.reduceLT, Nat.reduceEqDiff, Nat.reduceLeDiff, Nat.reduceAdd, Nat.reduceSub, Nat.reduceMul, Int.reduceBEq, Int.reduceBNe, Int.reduceLT, Int.reduceLE, Int.reduceEq, reduceIte, reduceCtorEq, da, int, boolA, cl, c6, ca, o6]
    refine KW_ex hS (fun H1 hP => ?_)
    obtain ⟨hW1, hK1⟩ := hP
    have k6 := hK1.2 i6 _ _ hne.1 (get_old g6 _)
    have k7 := hK1.2 i7 _ _ hne.2 (get_old g7 _)
    have k3 := hK1.2 H.next false (placeC p a b) (by omega) (hx_get0 _ _)
    have n1 : H.next < H1.next := Heap.get_lt k3
    rw [← hx_nil H1]
    by_cases he : e = 0
    · subst he
      rw [if_neg (by simp)]
      have hR : nodeR n 0 = nodeC n := rfl
      rw [hR] at r1 r2 r3 ⊢
      simp only [↓vp, vq0, vq1, vq2, vq3, vr0, vr1, vr2, vr3, vr4, vr5, vr6, vr7, vr8, vr9, vr10, vr11, vr12, vr13, vr14, vr15, vr16, vr17, vr18, vr19, vr20, vr21, vr22, vr23, vr24, vr25, vr26, vr27, vr28, vr29, vr30, vr31, vr32, vr33, vr34, opS, fpS, okP, pack, nAl, allocA, shId, leaves, fillA, fillR, splice, Nat.reduceLT, Nat.reduceEqDiff, Nat.reduceLeDiff, Nat.reduceAdd, Nat.reduceSub, Nat.reduceMul, Int.reduceBEq, Int.reduceBNe, Int.reduceLT, Int.reduceLE, Int.reduceEq, reduceIte, reduceCtorEq, da, int, boolA, r1, r2, r3]
      rw [← hx_nil (hx _ _)]
      refine l54 (v := visitM l d) (wid := wid) (mid := mid) (i6 := i6) (i7 := i7) (i3 := H.next) (i5 := H1.next) (p := p) ha hb hp hn ⟨h1, by omega⟩ ⟨hne.1, hne.2, by omega, fun e => ?_⟩ (okW_visit ht d)
        (fun k w H ho hw g6 g7 => ih (kidM p n k) _ _ w H (nb_B _) (nb_B _) (okP_kid hp hn k) (by show p.deep + 1 + d = 13; omega) (by show 1 ≤ p.deep + 1; omega) ho hw g6 g7)
        (goM (visitM l d) p n (List.range n.kids.length) w1) H (fun f' K q6 hWK hKK => ?_) n.kids.length 0 w1 0 (hx H1 [.box false (nodeC n)]) _ (by simp) ?_ ho1 (hW1.hx _) ((Keep.hx _).trans (hK1.trans (Keep.hx _))) (get_old k6 _) (get_old k7 _) (get_old k3 _) (hx_get0 _ _) ?_ ?_ ?_ ?_ ?_
      · obtain ⟨_, _, gw', _⟩ := hW1.ex
        have := Heap.get_lt gw'
        omega
      · unfold c54R1
        simp only [↓vp, vq0, vq1, vq2, vq3, vr0, vr1, vr2, vr3, vr4, vr5, vr6, vr7, vr8, vr9, vr10, vr11, vr12, vr13, vr14, vr15, vr16, vr17, vr18, vr19, vr20, vr21, vr22, vr23, vr24, vr25, vr26, vr27, vr28, vr29, vr30, vr31, vr32, vr33, vr34, opS, fpS, okP, pack, nAl, allocA, shId, leaves, fillA, fillR, splice, Nat.reduceLT, Nat.reduceEqDiff, Nat.reduceLeDiff, Nat.reduceAdd, Nat.reduceSub, Nat.reduceMul, Int.reduceBEq, Int.reduceBNe, Int.reduceLT, Int.reduceLE, Int.reduceEq, reduceIte, reduceCtorEq, da, int, boolA, RetE_go, resT, resC, resN, retV1, q6]
        exact ⟨hWK.hx _, hKK.trans (Keep.hx _)⟩
      · rw [if_pos rfl, List.range_eq_range']
      all_goals first | rfl | (simp only [↓vp, vq0, vq1, vq2, vq3, vr0, vr1, vr2, vr3, vr4, vr5, vr6, vr7, vr8, vr9, vr10, vr11, vr12, vr13, vr14, vr15, vr16, vr17, vr18, vr19, vr20, vr21, vr22, vr23, vr24, vr25, vr26, vr27, vr28, vr29, vr30, vr31, vr32, vr33, vr34, opS, fpS, okP, pack, nAl, allocA, shId, leaves, fillA, fillR, splice, Nat.reduceLT, Nat.reduceEqDiff, Nat.reduceLeDiff, Nat.reduceAdd, Nat.reduceSub, Nat.reduceMul, Int.reduceBEq, Int.reduceBNe, Int.reduceLT, Int.reduceLE, Int.reduceEq, reduceIte, reduceCtorEq, da, int, boolA]; done)
    · rw [if_pos he]
      have hR : nodeR n e = [boolA false, .sc (.slice none 0 0), .sc (.slice none 0 0)] := by unfold nodeR; rw [if_neg he]
      rw [hR] at r1 r2 r3 ⊢
      simp only [↓vp, vq0, vq1, vq2, vq3, vr0, vr1, vr2, vr3, vr4, vr5, vr6, vr7, vr8, vr9, vr10, vr11, vr12, vr13, vr14, vr15, vr16, vr17, vr18, vr19, vr20, vr21, vr22, vr23, vr24, vr25, vr26, vr27, vr28, vr29, vr30, vr31, vr32, vr33, vr34, opS, fpS, okP, pack, nAl, allocA, shId, leaves, fillA, fillR, splice, Nat.reduceLT, Nat.reduceEqDiff, Nat.reduceLeDiff, Nat.reduceAdd, Nat.reduceSub, Nat.reduceMul, Int.reduceBEq, Int.reduceBNe, Int.reduceLT, Int.reduceLE, Int.reduceEq, reduceIte, reduceCtorEq, da, int, boolA, r1, r2, r3]
      rw [AW_loop]
      unfold c54L0 c54R1
      simp only [↓vp, vq0, vq1, vq2, vq3, vr0, vr1, vr2, vr3, vr4, vr5, vr6, vr7, vr8, vr9, vr10, vr11, vr12, vr13, vr14, vr15, vr16, vr17, vr18, vr19, vr20, vr21, vr22, vr23, vr24, vr25, vr26, vr27, vr28, vr29, vr30, vr31, vr32, vr33, vr34, opS, fpS, okP, pack, nAl, allocA, shId, leaves, fillA, fillR, splice, Nat.reduceLT, Nat.reduceEqDiff, Nat.reduceLeDiff, Nat.reduceAdd, Nat.reduceSub, Nat.reduceMul, Int.reduceBEq, Int.reduceBNe, Int.reduceLT, Int.reduceLE, Int.reduceEq, reduceIte, reduceCtorEq, da, int, boolA, RetE_go, resT, resC, resN, retV1]
      exact ⟨hW1.hx _, (Keep.hx _).trans (hK1.trans (Keep.hx _))⟩

/-- All of a tree: what is met, and why not. -/
def w0 : WM := ⟨[], [], 0⟩
def root0 (root : Int) : PlaceM := ⟨root, 1, false, [], false, []⟩
def allM (l : List NamedM) (root : Int) : WM × Int :=
  if (visitM l 12 (root0 root) w0).1 ≠ 0 then (w0, (visitM l 12 (root0 root) w0).1) else ((visitM l 12 (root0 root) w0).2, 0)
def wholeC (w : WM) : List AV := [encI w.items, encN w.refs, int w.depth]
theorem frz_rep_keep {K : Heap} {sz : Nat} {S : AV} {rows : List (List AV)} (h : Rep K sz S rows) (n : Nat) : ∃ K', frz (n + 1) K S = some (.lst rows, K') ∧ ∀ sz' T rows', sz' ≠ sz → Rep K sz' T rows' → Rep K' sz' T rows' := by
  rcases h with ⟨rfl, rfl⟩ | ⟨id, rfl, h⟩
  · exact ⟨K, rfl, fun _ _ _ _ h => h⟩
  · refine ⟨K.set id (.row true sz rows), ?_, fun sz' T rows' hs hr => hr.mono fun j hj => ?_⟩
    · rw [frz_sl, h]
      simp
    · rw [Heap.get_set_ne _ (fun e => by rw [e, h] at hj; cases hj; exact hs rfl), hj]
theorem s21 (l : List NamedM) (hl : okL l) (ht : tinyL l) (hlen : l.length ≤ 1000) (root : Int) (H : Heap) : callL ft (.fn (.func 21) [] []) [srcF l, int root] H = some (.tup [.agg (wholeC (allM l root).1), int (allM l root).2], H) := by
  refine call_p (as' := [srcF l, int root]) rfl rfl (by simp) ?_
  have hn : isnilA 3 (srcF l) = some false := rfl
  have z1 : (srcF l).cells = [srcF l] := rfl
  have z2 : (srcF l).one = true := rfl
  unfold c21 r21
  simp only [↓vp, vq0, vq1, vq2, vq3, vr0, vr1, vr2, vr3, vr4, vr5, vr6, vr7, vr8, vr9, vr10, vr11, vr12, vr13, vr14, vr15, vr16, vr17, vr18, vr19, vr20, vr21, vr22, vr23, vr24, vr25, vr26, vr27, vr28, vr29, vr30, vr31, vr32, vr33, vr34, opS, fpS, okP, pack, nAl, allocA, shId, leaves, fillA, fillR, splice, Nat.reduceLT, Nat.reduceEqDiff, Nat.reduceLeDiff, Nat.reduceAdd, Nat.reduceSub, Nat.reduceMul, Int.reduceBEq, Int.reduceBNe, Int.reduceLT, Int.reduceLE, Int.reduceEq, reduceIte, reduceCtorEq, da, int, boolA, hn, z1, z2]
  refine KW_ex (s54 hl ht hlen (wid := 2) (mid := 1) (i6 := 3) (i7 := 4) ⟨by decide, by decide⟩ 12 (root0 root) _ _ w0 _ (.inr ⟨rfl, rfl⟩) (.inr ⟨rfl, rfl⟩) ⟨ok_nil, ok_nil⟩ rfl (Int.le_refl _) ⟨List.nodup_nil, (by intro r hr; cases hr), (by decide)⟩
    ⟨_, _, rfl, .inl ⟨rfl, rfl⟩, .inl ⟨rfl, rfl⟩, rfl⟩ rfl rfl) (fun H1 hP => ?_)
  obtain ⟨hW, hK⟩ := hP
  have k0 := hK.2 0 _ _ (by decide) rfl
  have k3 := hK.2 3 _ _ (by decide) rfl
  obtain ⟨sI, sR, g2, rI, rR, _⟩ := hW.ex
  have o0 := get_old k0
  have o2 := get_old g2
  have o3 := get_old k3
  have l0 := Heap.get_lt k0
  have p0 := fun L b => hx_set_old H1 L b 0 l0
  have cI : sI.one = true := by rcases rI with ⟨rfl, _⟩ | ⟨_, rfl, _⟩ <;> rfl
  have cR : sR.one = true := by rcases rR with ⟨rfl, _⟩ | ⟨_, rfl, _⟩ <;> rfl
  rw [← hx_nil H1]
  cases e1 : ((visitM l 12 (root0 root) w0).1 != 0) with
  | true =>
    have e1' : (visitM l 12 (root0 root) w0).1 ≠ 0 := by simpa using e1
    have hA : allM l root = (w0, (visitM l 12 (root0 root) w0).1) := by unfold allM; rw [if_pos e1']
    rw [hA]
    have oS : ∀ (b : Blk) (L : List Blk), (hx (H1.set 0 b) L).get 0 = some b := fun b L => get_old (Heap.get_set_self b l0) L
    simp only [↓vp, vq0, vq1, vq2, vq3, vr0, vr1, vr2, vr3, vr4, vr5, vr6, vr7, vr8, vr9, vr10, vr11, vr12, vr13, vr14, vr15, vr16, vr17, vr18, vr19, vr20, vr21, vr22, vr23, vr24, vr25, vr26, vr27, vr28, vr29, vr30, vr31, vr32, vr33, vr34, opS, fpS, okP, pack, nAl, allocA, shId, leaves, fillA, fillR, splice, Nat.reduceLT, Nat.reduceEqDiff, Nat.reduceLeDiff, Nat.reduceAdd, Nat.reduceSub, Nat.reduceMul, Int.reduceBEq, Int.reduceBNe, Int.reduceLT, Int.reduceLE, Int.reduceEq, reduceIte, reduceCtorEq, da, int, boolA, RetP_go, resT, resC, resN, retV1, retV2, retV3, retV0, frzFZ, takeM, Option.some.injEq, e1, o0, p0, oS]
    rfl
  | false =>
    have e1' : ¬ (visitM l 12 (root0 root) w0).1 ≠ 0 := by simpa using e1
    have hA : allM l root = ((visitM l 12 (root0 root) w0).2, 0) := by unfold allM; rw [if_neg e1']
    rw [hA]
    have oS : ∀ (b : Blk) (L : List Blk), (hx (H1.set 0 b) L).get 0 = some b := fun b L => get_old (Heap.get_set_self b l0) L
    have mono : ∀ (b : Blk) {sz : Nat} {S : AV} {rows : List (List AV)}, Rep H1 sz S rows → Rep (hx (H1.set 0 b) []) sz S rows := fun b {sz S rows} h => h.mono fun id hid => by
      rw [hx_nil, Heap.get_set_ne _ (fun e => by rw [e, k0] at hid; cases hid), hid]
    simp only [int] at o2
    simp only [↓vp, vq0, vq1, vq2, vq3, vr0, vr1, vr2, vr3, vr4, vr5, vr6, vr7, vr8, vr9, vr10, vr11, vr12, vr13, vr14, vr15, vr16, vr17, vr18, vr19, vr20, vr21, vr22, vr23, vr24, vr25, vr26, vr27, vr28, vr29, vr30, vr31, vr32, vr33, vr34, opS, fpS, okP, pack, nAl, allocA, shId, leaves, fillA, fillR, splice, Nat.reduceLT, Nat.reduceEqDiff, Nat.reduceLeDiff, Nat.reduceAdd, Nat.reduceSub, Nat.reduceMul, Int.reduceBEq, Int.reduceBNe, Int.reduceLT, Int.reduceLE, Int.reduceEq, reduceIte, reduceCtorEq, da, int, boolA, RetP_go, resT, resC, resN, retV1, retV2, retV3, retV0, frzFZ, takeM, Option.some.injEq, e1, o0, o2, o3, p0, oS, cI, cR]
    obtain ⟨K1, h1, h2⟩ := frz_rep_keep (mono (.box false [sI, sR, .sc (.int .i64 (visitM l 12 (root0 root) w0).2.depth)]) rI) 19
    obtain ⟨K2, h3, _⟩ := frz_rep_keep (h2 _ _ _ (by decide) (mono _ rR)) 18
    simp only [Nat.reduceAdd] at h1 h3
    simp only [h1, h3, Option.bind_some, Option.map_some]
    rfl
theorem k21 {l : List NamedM} (hl : okL l) (ht : tinyL l) (hlen : l.length ≤ 1000) {root : Int} {K : Heap} {L : List Blk} {Q : AV → Heap → Prop} :
    KW ft (.fn (.func 21) [] []) [srcF l, int root] (hx K L) Q ↔ Q (.tup [.agg (wholeC (allM l root).1), int (allM l root).2]) (hx K L) := KW_of (s21 l hl ht hlen root _)
/-- Without a source there is nothing. -/
theorem s21n (root : Int) (H : Heap) : callL ft (.fn (.func 21) [] []) [.sc .nilFunc, int root] H = some (.tup [.agg (wholeC w0), int 1], H) := by
  refine call_p (as' := [.sc .nilFunc, int root]) rfl rfl (by simp) ?_
  have hn : isnilA 3 (.sc .nilFunc) = some true := rfl
  unfold c21 r21
  simp only [↓vp, vq0, vq1, vq2, vq3, vr0, vr1, vr2, vr3, vr4, vr5, vr6, vr7, vr8, vr9, vr10, vr11, vr12, vr13, vr14, vr15, vr16, vr17, vr18, vr19, vr20, vr21, vr22, vr23, vr24, vr25, vr26, vr27, vr28, vr29, vr30, vr31, vr32, vr33, vr34, opS, fpS, okP, pack, nAl, allocA, shId, leaves, fillA, fillR, splice, Nat.reduceLT, Nat.reduceEqDiff, Nat.reduceLeDiff, Nat.reduceAdd, Nat.reduceSub, Nat.reduceMul, Int.reduceBEq, Int.reduceBNe, Int.reduceLT, Int.reduceLE, Int.reduceEq, reduceIte, reduceCtorEq, da, int, boolA, RetP_go, resT, resC, resN, retV1, retV2, retV3, retV0, frzFZ, takeM, Option.some.injEq, hn]
  rfl
theorem k21n {root : Int} {K : Heap} {L : List Blk} {Q : AV → Heap → Prop} :
    KW ft (.fn (.func 21) [] []) [.sc .nilFunc, int root] (hx K L) Q ↔ Q (.tup [.agg (wholeC w0), int 1]) (hx K L) := KW_of (s21n root _)
end Go.VI
