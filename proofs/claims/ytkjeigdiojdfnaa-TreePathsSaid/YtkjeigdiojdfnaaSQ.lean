/- VI, part SQ: All: the walker's node. -/
import Derived.Test.YtkjeigdiojdfnaaSP
set_option linter.unusedVariables false
set_option linter.unusedSimpArgs false
set_option maxRecDepth 100000
namespace Go.VI
attribute [local congr] AW_congr OW_congr DW_congr NW_congr VW_congr GW_congr PW_congr KW_congr ite_congr' GV_congr CV_congr

/-! ### calls that share the heap: what is left behind is told by a property -/
def RetE (rs : List ARes) (R : AV) (P : Heap → Prop) (x : AExit) (e : Env) (H : Heap) : Prop := leaves x = true ∧ resultsA H e rs = some R ∧ P H
theorem call_oE {ft : FT} {k : FuncId} {first caps args : List AV} {H : Heap} {n : Nat} {rs : List ARes} {body : ACode} {R : AV} {P : Heap → Prop} (hk : ft k = some (.go false n rs body)) (hl : (first ++ args ++ caps).length ≤ n)
    (h : AW ft body (mkE n (ofL (first ++ args ++ caps))) (hx H []) (RetE rs R P)) : ∃ H1, callL ft (.fn (.func k) first caps) args H = some (R, H1) ∧ P H1 := by
  obtain ⟨x, e', Hc, h1, hx_, h2, h3⟩ := h
  refine ⟨Hc, ?_, h3⟩
  refine call_o hk hl ⟨x, e', Hc, h1, hx_, h2, rfl⟩
theorem RetE_go {rs : List ARes} {R : AV} {P : Heap → Prop} {x : AExit} {n : Nat} {f : Nat → AV} {H : Heap} : RetE rs R P x (mkE n f) H ↔ leaves x = true ∧ (rs.mapM (resOf H (mkE n f))).map retV = some R ∧ P H := Iff.rfl
theorem KW_ex {f : AV} {args : List AV} {K : Heap} {Q : AV → Heap → Prop} {R : AV} {P : Heap → Prop} (h : ∃ H', callL ft f args K = some (R, H') ∧ P H') (hq : ∀ H', P H' → Q R H') : KW ft f args K Q := by
  obtain ⟨H', h1, h2⟩ := h
  exact ⟨R, H', h1, hq H' h2⟩

theorem hx_hx (H : Heap) (L M : List Blk) : hx (hx H L) M = hx H (L ++ M) := by simp [hx]
theorem look_go {nid : Nat} {e : Env} {H : Heap} {kd : Option IntKind} {z : AV} {m k : Operand} : opS nid e H (.look kd z m k false) = match ev e m with
    | .mp id => match H.get id with
      | some (.mpb kd' es) => if kd' = kd ∧ keyOk kd (ev e k) = true then some ((lookE (ev e k) es).getD z, H) else none
      | _ => none
    | _ => none := rfl

theorem mput_go {nid : Nat} {e : Env} {H : Heap} {kd : Option IntKind} {m k v : Operand} : opS nid e H (.mput kd m k v) = match ev e m with
    | .mp id => match H.get id with
      | some (.mpb kd' es) => if kd' = kd ∧ keyOk kd (ev e k) = true then some (.bad, H.set id (.mpb kd (putE (ev e k) (ev e v) es))) else none
      | _ => none
    | _ => none := rfl

theorem clI (k : IntKind) (n : Int) : closedL [.sc (.int k n)] = true := rfl

/-! ### a walker -/
structure WM where
  items : List ItemM
  refs : List Int
  depth : Int
def intC (r : Int) : List AV := [int r]
def encN (l : List Int) : AV := .lst (l.map intC)
def seenE (l : List Int) : List (AV × AV) := l.map fun r => (int r, int 1)
theorem look_seen (r : Int) : ∀ l : List Int, lookE (int r) (seenE l) = if l.contains r then some (int 1) else none
  | [] => rfl
  | x :: l => by
    show (if keyEq (int r) (int x) then some (int 1) else lookE (int r) (seenE l)) = _
    have : keyEq (int r) (int x) = (r == x) := rfl
    rw [this, look_seen r l, List.contains_cons]
    cases h : (r == x) <;> simp
theorem put_seen (r : Int) : ∀ l : List Int, l.contains r = false → putE (int r) (int 1) (seenE l) = seenE (l ++ [r])
  | [], _ => rfl
  | x :: l, h => by
    rw [List.contains_cons, Bool.or_eq_false_iff] at h
    show (if keyEq (int r) (int x) then (int r, int 1) :: seenE l else (int x, int 1) :: putE (int r) (int 1) (seenE l)) = _
    have : keyEq (int r) (int x) = (r == x) := rfl
    rw [this, h.1, put_seen r l h.2]
    rfl
structure WS (H : Heap) (l : List NamedM) (wid mid : Nat) (w : WM) : Prop where
  ex : ∃ sI sR, H.get wid = some (.box false [srcF l, sI, sR, int w.depth, .mp mid]) ∧ Rep H 4 sI (w.items.map itemC) ∧ Rep H 1 sR (w.refs.map intC) ∧ H.get mid = some (.mpb (some .i64) (seenE w.refs))
/-- All boxes but one stay. -/
def Keep (wid : Nat) (H H' : Heap) : Prop := H.next ≤ H'.next ∧ ∀ id fz c, id ≠ wid → H.get id = some (.box fz c) → H'.get id = some (.box fz c)
theorem Keep.rfl' {wid : Nat} {H : Heap} : Keep wid H H := ⟨Nat.le_refl _, fun _ _ _ _ h => h⟩
theorem Keep.trans {wid : Nat} {H H' H'' : Heap} (h : Keep wid H H') (h' : Keep wid H' H'') : Keep wid H H'' := ⟨Nat.le_trans h.1 h'.1, fun id fz c hi hg => h'.2 id fz c hi (h.2 id fz c hi hg)⟩
theorem Keep.hx {wid : Nat} {H : Heap} (L : List Blk) : Keep wid H (hx H L) := ⟨by rw [hx_next]; omega, fun _ _ _ _ h => get_old h L⟩
theorem WS.hx {H : Heap} {l : List NamedM} {wid mid : Nat} {w : WM} (h : WS H l wid mid w) (L : List Blk) : WS (hx H L) l wid mid w := by
  obtain ⟨sI, sR, h1, h2, h3, h4⟩ := h.ex
  exact ⟨sI, sR, get_old h1 L, h2.mono fun id h => get_old h L, h3.mono fun id h => get_old h L, get_old h4 L⟩
def noNode : NodeM := ⟨false, [], []⟩
def nodeW (l : List NamedM) (p : PlaceM) (w : WM) : NodeM × Int × WM :=
  if 12 < p.deep then (noNode, 130, w)
  else if (nodeM l p.ref).2 ≠ 0 then (noNode, (nodeM l p.ref).2, w)
  else if w.refs.contains p.ref || !formM w.depth p (nodeM l p.ref).1 then (noNode, 131, w)
  else ((nodeM l p.ref).1, 0, ⟨if (nodeM l p.ref).1.leaf then w.items ++ (nodeM l p.ref).1.items else w.items, w.refs ++ [p.ref], if (nodeM l p.ref).1.leaf then p.deep else w.depth⟩)
/-- The node that is told: none where an error is. -/
def nodeR (n : NodeM) (e : Int) : List AV := if e = 0 then nodeC n else [boolA false, .sc (.slice none 0 0), .sc (.slice none 0 0)]
theorem s55 {l : List NamedM} (hl : okL l) (ht : tinyL l) {p : PlaceM} {a b : AV} (ha : NB a p.lk) (hb : NB b p.hk) (hp : okP_ p) {H : Heap} {wid mid : Nat} {w : WM} (hw : WS H l wid mid w) (hr : w.refs.length ≤ 1000) (hi : w.items.length ≤ 1000000) :
    ∃ H', callL ft (.fn (.func 55) [] []) [.ptr wid 0 0, .agg (placeC p a b)] H = some (.tup [.agg (nodeR (nodeW l p w).1 (nodeW l p w).2.1), int (nodeW l p w).2.1], H') ∧ WS H' l wid mid (nodeW l p w).2.2 ∧ Keep wid H H' := by
  refine call_oE rfl (by simp) ?_
  obtain ⟨sI, sR, g1, g2, g3, g4⟩ := hw.ex
  have cl : (placeC p a b).length = 6 := rfl
  have c6 : (placeC p a b).take 6 = placeC p a b := rfl
  have ca : oneAll (placeC p a b) = true := by
    show (true && (true && (true && (a.one && (true && (b.one && true)))))) = true
    rw [ha.one, hb.one]; rfl
  have c0 : (placeC p a b).take 1 = [int p.ref] := rfl
  have c1 : ((placeC p a b).drop 1).take 1 = [int p.deep] := rfl
  have ow := get_old g1
  have om := get_old g4
  have lw := Heap.get_lt g1
  have nw0 : (wid = H.next) = False := eq_false (by omega)
  have nwk : ∀ k, (wid = H.next + k) = False := fun k => eq_false (by omega)
  unfold c55 r55
  by_cases e1 : 12 < p.deep
  · have hf : nodeW l p w = (noNode, 130, w) := by unfold nodeW; rw [if_pos e1]
    rw [hf]
    simp only [↓vp, vq0, vq1, vq2, vq3, vr0, vr1, vr2, vr3, vr4, vr5, vr6, vr7, vr8, vr9, vr10, vr11, vr12, vr13, vr14, vr15, vr16, vr17, vr18, vr19, vr20, vr21, vr22, vr23, vr24, vr25, vr26, vr27, vr28, vr29, vr30, vr31, vr32, vr33, vr34, opS, fpS, okP, pack, nAl, allocA, shId, leaves, fillA, fillR, splice, Nat.reduceLT, Nat.reduceEqDiff, Nat.reduceLeDiff, Nat.reduceAdd, Nat.reduceSub, Nat.reduceMul, Int.reduceBEq, Int.reduceBNe, Int.reduceLT, Int.reduceLE, Int.reduceEq, reduceIte, reduceCtorEq, da, int, boolA, cl, c6, ca, c0, c1, e1, RetE_go, resT, resC, resN, retV2]
    exact ⟨rfl, hw.hx _, Keep.hx _⟩
  · obtain ⟨t1, t2⟩ := tiny_node ht p.ref
    have o1 := ok_node hl p.ref
    have x45 := fun K L Q => k45 hl ht (ref := p.ref) (K := K) (L := L) (Q := Q)
    have hpv : pureV ft (srcF l) [int p.ref] = true := rfl
    simp only [int] at x45 hpv
    cases e2 : ((nodeM l p.ref).2 != 0) with
    | true =>
      have e2' : (nodeM l p.ref).2 ≠ 0 := by simpa using e2
      have hf : nodeW l p w = (noNode, (nodeM l p.ref).2, w) := by unfold nodeW; rw [if_neg e1, if_pos e2']
      rw [hf]
      generalize nodeM l p.ref = nn at *
      have hR : nodeR noNode nn.2 = [boolA false, .sc (.slice none 0 0), .sc (.slice none 0 0)] := by unfold nodeR; rw [if_neg e2']
      simp only [↓vp, vq0, vq1, vq2, vq3, vr0, vr1, vr2, vr3, vr4, vr5, vr6, vr7, vr8, vr9, vr10, vr11, vr12, vr13, vr14, vr15, vr16, vr17, vr18, vr19, vr20, vr21, vr22, vr23, vr24, vr25, vr26, vr27, vr28, vr29, vr30, vr31, vr32, vr33, vr34, opS, fpS, okP, pack, nAl, allocA, shId, leaves, fillA, fillR, splice, Nat.reduceLT, Nat.reduceEqDiff, Nat.reduceLeDiff, Nat.reduceAdd, Nat.reduceSub, Nat.reduceMul, Int.reduceBEq, Int.reduceBNe, Int.reduceLT, Int.reduceLE, Int.reduceEq, reduceIte, reduceCtorEq, da, int, boolA, cl, c6, ca, c0, c1, e1, ow, x45, hpv, e2, hR, RetE_go, resT, resC, resN, retV2, nw0, nwk]
      exact ⟨hw.hx _, Keep.hx _⟩
    | false =>
      have e2' : ¬ (nodeM l p.ref).2 ≠ 0 := by simpa using e2
      have x68 : ∀ (L : List Blk) (Q : AV → Heap → Prop), KW ft (.fn (.func 68) [] []) [.ptr wid 0 0, .agg (placeC p a b), .agg (nodeC (nodeM l p.ref).1)] (hx H L) Q ↔ Q (boolA (formM w.depth p (nodeM l p.ref).1)) (hx H (L ++ [.box false (placeC p a b), .box false (nodeC (nodeM l p.ref).1)])) :=
        fun L Q => by
          have := s68 ha hb hp o1 t1 t2 (get_old g1 L)
          rw [hx_hx] at this
          exact KW_of this
      have lk := look_seen p.ref w.refs
      cases e3 : w.refs.contains p.ref with
      | true =>
        have hf : nodeW l p w = (noNode, 131, w) := by unfold nodeW; rw [if_neg e1, if_neg e2', e3]; rfl
        rw [hf]
        have hR : nodeR noNode 131 = [boolA false, .sc (.slice none 0 0), .sc (.slice none 0 0)] := rfl
        rw [e3] at lk
        generalize nodeM l p.ref = nn at *
        simp only [int] at lk
        simp only [↓vp, vq0, vq1, vq2, vq3, vr0, vr1, vr2, vr3, vr4, vr5, vr6, vr7, vr8, vr9, vr10, vr11, vr12, vr13, vr14, vr15, vr16, vr17, vr18, vr19, vr20, vr21, vr22, vr23, vr24, vr25, vr26, vr27, vr28, vr29, vr30, vr31, vr32, vr33, vr34, opS, fpS, okP, pack, nAl, allocA, shId, leaves, fillA, fillR, splice, Nat.reduceLT, Nat.reduceEqDiff, Nat.reduceLeDiff, Nat.reduceAdd, Nat.reduceSub, Nat.reduceMul, Int.reduceBEq, Int.reduceBNe, Int.reduceLT, Int.reduceLE, Int.reduceEq, reduceIte, reduceCtorEq, da, int, boolA, cl, c6, ca, c0, c1, e1, ow, om, x45, hpv, e2, hR, RetE_go, resT, resC, resN, retV2, nw0, nwk, look_go, lk, keyOk, Option.getD_some]
        exact ⟨hw.hx _, Keep.hx _⟩
      | false =>
        rw [e3] at lk
        cases e4 : formM w.depth p (nodeM l p.ref).1 with
        | false =>
          have hf : nodeW l p w = (noNode, 131, w) := by unfold nodeW; rw [if_neg e1, if_neg e2', e3, e4]; rfl
          rw [hf]
          have hR : nodeR noNode 131 = [boolA false, .sc (.slice none 0 0), .sc (.slice none 0 0)] := rfl
          rw [e4] at x68
          generalize nodeM l p.ref = nn at *
          simp only [int, boolA] at lk x68
          simp only [↓vp, vq0, vq1, vq2, vq3, vr0, vr1, vr2, vr3, vr4, vr5, vr6, vr7, vr8, vr9, vr10, vr11, vr12, vr13, vr14, vr15, vr16, vr17, vr18, vr19, vr20, vr21, vr22, vr23, vr24, vr25, vr26, vr27, vr28, vr29, vr30, vr31, vr32, vr33, vr34, opS, fpS, okP, pack, nAl, allocA, shId, leaves, fillA, fillR, splice, Nat.reduceLT, Nat.reduceEqDiff, Nat.reduceLeDiff, Nat.reduceAdd, Nat.reduceSub, Nat.reduceMul, Int.reduceBEq, Int.reduceBNe, Int.reduceLT, Int.reduceLE, Int.reduceEq, reduceIte, reduceCtorEq, da, int, boolA, cl, c6, ca, c0, c1, e1, ow, om, x45, x68, hpv, e2, hR, RetE_go, resT, resC, resN, retV2, nw0, nwk, look_go, lk, keyOk, Option.getD_none]
          exact ⟨hw.hx _, Keep.hx _⟩
        | true =>
          have hf : nodeW l p w = ((nodeM l p.ref).1, 0, ⟨if (nodeM l p.ref).1.leaf then w.items ++ (nodeM l p.ref).1.items else w.items, w.refs ++ [p.ref], if (nodeM l p.ref).1.leaf then p.deep else w.depth⟩) := by unfold nodeW; rw [if_neg e1, if_neg e2', e3, e4]; rfl
          rw [hf]
          have hR : nodeR (nodeM l p.ref).1 0 = nodeC (nodeM l p.ref).1 := rfl
          rw [e4] at x68
          have lm := Heap.get_lt g4
          have hmw : mid ≠ wid := fun e => by rw [e, g1] at g4; cases g4
          have ps := put_seen p.ref w.refs e3
          have pm := fun (L : List Blk) (b : Blk) => hx_set_old H L b mid lm
          obtain ⟨H1, hH1⟩ : ∃ H1, H1 = H.set mid (.mpb (some .i64) (seenE (w.refs ++ [p.ref]))) := ⟨_, rfl⟩
          have n1 : H1.next = H.next := by rw [hH1, Heap.next_set]
          have q1 : ∀ j b, j ≠ mid → H.get j = some b → H1.get j = some b := fun j b hj hg => by rw [hH1, Heap.get_set_ne _ hj, hg]
          have gm1 : H1.get mid = some (.mpb (some .i64) (seenE (w.refs ++ [p.ref]))) := by rw [hH1, Heap.get_set_self _ lm]
          have gw1 := q1 _ _ hmw.symm g1
          have ow1 := get_old gw1
          have rI1 : Rep H1 4 sI (w.items.map itemC) := g2.mono fun id h => q1 id _ (fun e => by rw [e, g4] at h; cases h) h
          have rR1 : Rep H1 1 sR (w.refs.map intC) := g3.mono fun id h => q1 id _ (fun e => by rw [e, g4] at h; cases h) h
          have apR := fun nid L => appA_rep (nid := nid) (bytes := 8) rR1 (xs := [intC p.ref]) (by simp) rfl (by simp only [List.length_map, List.length_singleton]; omega) L
          obtain ⟨H2, hH2⟩ : ∃ H2, H2 = kill H1 sR := ⟨_, rfl⟩
          rw [← hH2] at apR
          have n2 : H2.next = H.next := by rw [hH2, kill_next, n1]
          have gm2 : H2.get mid = some (.mpb (some .i64) (seenE (w.refs ++ [p.ref]))) := by rw [hH2]; exact kill_get rR1 gm1 fun r h => by cases h
          have gw2 : H2.get wid = some (.box false [srcF l, sI, sR, int w.depth, .mp mid]) := by rw [hH2]; exact kill_get rR1 gw1 fun r h => by cases h
          have ow2 := get_old gw2
          have lw2 := Heap.get_lt gw2
          have rI2 : Rep H2 4 sI (w.items.map itemC) := rI1.mono fun id h => by rw [hH2]; exact kill_get rR1 h fun r h => by cases h
          have pw := fun (L : List Blk) (b : Blk) => hx_set_old H2 L b wid lw2
          obtain ⟨H3, hH3⟩ : ∃ H3, H3 = H2.set wid (.box false [srcF l, sI, .sl (H.next + 6) 0 (w.refs.length + 1), int w.depth, .mp mid]) := ⟨_, rfl⟩
          have n3 : H3.next = H.next := by rw [hH3, Heap.next_set, n2]
          have gw3 : H3.get wid = some (.box false [srcF l, sI, .sl (H.next + 6) 0 (w.refs.length + 1), int w.depth, .mp mid]) := by rw [hH3, Heap.get_set_self _ lw2]
          have ow3 := get_old gw3
          have gm3 : H3.get mid = some (.mpb (some .i64) (seenE (w.refs ++ [p.ref]))) := by rw [hH3, Heap.get_set_ne _ hmw, gm2]
          have rI3 : Rep H3 4 sI (w.items.map itemC) := rI2.mono fun id h => by rw [hH3, Heap.get_set_ne _ (fun e => by rw [e, gw2] at h; cases h), h]
          have K3 : Keep wid H H3 := ⟨by omega, fun id fz c hid hg => by
            rw [hH3, Heap.get_set_ne _ hid, hH2]
            exact kill_get rR1 (q1 _ _ (fun e => by rw [e, g4] at hg; cases hg) hg) fun r h => by cases h⟩
          have pm1 : ∀ L, (hx H L).set mid (.mpb (some .i64) (seenE (w.refs ++ [p.ref]))) = hx H1 L := fun L => by rw [hH1, pm]
          have pw1 : ∀ L, (hx H2 L).set wid (.box false [srcF l, sI, .sl (H.next + 6) 0 (w.refs.length + 1), int w.depth, .mp mid]) = hx H3 L := fun L => by rw [hH3, pw]
          clear pm pw hH1 hH2 hH3 ow2
          have ow2 := get_old gw2
          generalize nodeM l p.ref = nn at *
          obtain ⟨n, er⟩ := nn
          simp only [int, boolA] at lk x68 ps pw1 ow ow1 ow2 ow3 pm1
          simp only [intC, int] at apR
          cases e5 : n.leaf with
          | false =>
            simp only [↓vp, vq0, vq1, vq2, vq3, vr0, vr1, vr2, vr3, vr4, vr5, vr6, vr7, vr8, vr9, vr10, vr11, vr12, vr13, vr14, vr15, vr16, vr17, vr18, vr19, vr20, vr21, vr22, vr23, vr24, vr25, vr26, vr27, vr28, vr29, vr30, vr31, vr32, vr33, vr34, opS, fpS, okP, pack, nAl, allocA, shId, leaves, fillA, fillR, splice, Nat.reduceLT, Nat.reduceEqDiff, Nat.reduceLeDiff, Nat.reduceAdd, Nat.reduceSub, Nat.reduceMul, Int.reduceBEq, Int.reduceBNe, Int.reduceLT, Int.reduceLE, Int.reduceEq, reduceIte, reduceCtorEq, da, int, boolA, cl, c6, ca, c0, c1, e1, ow, om, x45, x68, hpv, e2, hR, RetE_go, resT, resC, resN, retV2, nw0, nwk, look_go, lk, keyOk, Option.getD_none, mput_go, ps, pm1, ow1, n1, n2, n3, apR, pw1, ow2, ow3, e5, clI]
            exact ⟨⟨sI, .sl (H.next + 6) 0 (w.refs.length + 1), ow3 _, rI3.mono fun id h => get_old h _, .inr ⟨H.next + 6, by simp, by simp only [↓vp, vq0, vq1, vq2, vq3, vr0, vr1, vr2, vr3, vr4, vr5, vr6, vr7, vr8, vr9, vr10, vr11, vr12, vr13, vr14, vr15, vr16, vr17, vr18, vr19, vr20, vr21, vr22, vr23, vr24, vr25, vr26, vr27, vr28, vr29, vr30, vr31, vr32, vr33, vr34, opS, fpS, okP, pack, nAl, allocA, shId, leaves, fillA, fillR, splice, Nat.reduceLT, Nat.reduceEqDiff, Nat.reduceLeDiff, Nat.reduceAdd, Nat.reduceSub, Nat.reduceMul, Int.reduceBEq, Int.reduceBNe, Int.reduceLT, Int.reduceLE, Int.reduceEq, reduceIte, reduceCtorEq, n3]; simp [intC, int]⟩, get_old gm3 _⟩, K3.trans (Keep.hx _)⟩
          | true =>
            have hsI : shId sI = [] ∨ ∃ id, shId sI = [id] ∧ id < H.next := by
              rcases g2 with ⟨rfl, _⟩ | ⟨id, rfl, h⟩
              · exact .inl rfl
              · exact .inr ⟨id, rfl, Heap.get_lt h⟩
            have cpt : compat (some (true, (H.next + 7) :: (shId sI ++ []))) (some (false, [H.next])) = true := by
              have q0 : ¬ (7 : Nat) = 0 := by decide
              rcases hsI with h | ⟨id, h, hlt⟩
              · rw [h]; simp [compat]
              · rw [h]
                have : id ≠ H.next := by omega
                simp [compat, this]
            obtain ⟨S', H4, X, apI, n4, gw4, gm4, rI4, K4⟩ : ∃ S' H4 X, (∀ L : List Blk, L[7]? = some .dead → appA (H.next + 7) (hx H3 L) 4 64 sI (n.items.map itemC) = some (S', hx H4 (L.set 7 X))) ∧ H4.next = H.next ∧
                H4.get wid = some (.box false [srcF l, sI, .sl (H.next + 6) 0 (w.refs.length + 1), int w.depth, .mp mid]) ∧ H4.get mid = some (.mpb (some .i64) (seenE (w.refs ++ [p.ref]))) ∧
                (S' = .sc (.slice none 0 0) ∧ w.items ++ n.items = [] ∨ S' = .sl (H.next + 7) 0 (w.items.length + n.items.length) ∧ X = .row false 4 (w.items.map itemC ++ n.items.map itemC)) ∧ Keep wid H H4 := by
              have pt : ∀ (K : Heap) (L : List Blk) (B : Blk), K.next = H.next → L[7]? = some .dead → (hx K L).put (H.next + 7) B = hx K (L.set 7 B) := fun K L B hk hl => by
                rw [hx_putN hk, if_pos (List.getElem?_eq_some_iff.1 hl).1]
              have t1' : n.items.length ≤ 1000 := t1
              have as : allSz 4 (n.items.map itemC) = true := by simp [allSz, len_itemC]
              rcases rI3 with ⟨rfl, hi0⟩ | ⟨id, rfl, hi0⟩
              · have hi0 : w.items = [] := by simpa using hi0
                by_cases hn : n.items = []
                · refine ⟨_, H3, .dead, fun L hl => ?_, n3, gw3, gm3, .inl ⟨rfl, by rw [hi0, hn]; rfl⟩, K3⟩
                  rw [appA_nil, hn, if_pos (by rfl)]
                  obtain ⟨h1, h2⟩ := List.getElem?_eq_some_iff.1 hl
                  rw [← h2, List.set_getElem_self]
                · refine ⟨_, H3, _, fun L hl => ?_, n3, gw3, gm3, .inr ⟨rfl, rfl⟩, K3⟩
                  rw [appA_nil, if_neg (by simpa using hn), if_pos ⟨by simp only [List.length_map]; omega, as⟩, pt _ _ _ n3 hl, hi0]
                  simp
              · have lid := Heap.get_lt hi0
                have hne : id ≠ wid := fun e => by rw [e, gw3] at hi0; cases hi0
                have hnm : id ≠ mid := fun e => by rw [e, gm3] at hi0; cases hi0
                refine ⟨_, H3.set id .dead, _, fun L hl => ?_, by rw [Heap.next_set, n3], by rw [Heap.get_set_ne _ hne.symm, gw3], by rw [Heap.get_set_ne _ hnm.symm, gm3], .inr ⟨rfl, rfl⟩,
                  K3.trans ⟨by rw [Heap.next_set]; omega, fun j fz c _ hg => by rw [Heap.get_set_ne _ (fun e => by rw [e, hi0] at hg; cases hg), hg]⟩⟩
                rw [appA_sl, hx_get_old _ _ _ lid, hi0]
                simp only
                rw [if_pos ⟨by trivial, by simp, by simp only [List.length_map]; omega, as⟩, hx_set_old _ _ _ _ lid, pt _ _ _ (by rw [Heap.next_set, n3]) hl, List.drop_zero, List.take_of_length_le (Nat.le_refl _)]
                simp
            have lw4 := Heap.get_lt gw4
            obtain ⟨H5, hH5⟩ : ∃ H5, H5 = H4.set wid (.box false [srcF l, S', .sl (H.next + 6) 0 (w.refs.length + 1), int w.depth, .mp mid]) := ⟨_, rfl⟩
            have n5 : H5.next = H.next := by rw [hH5, Heap.next_set, n4]
            have gw5 : H5.get wid = some (.box false [srcF l, S', .sl (H.next + 6) 0 (w.refs.length + 1), int w.depth, .mp mid]) := by rw [hH5, Heap.get_set_self _ lw4]
            have lw5 := Heap.get_lt gw5
            obtain ⟨H6, hH6⟩ : ∃ H6, H6 = H5.set wid (.box false [srcF l, S', .sl (H.next + 6) 0 (w.refs.length + 1), int p.deep, .mp mid]) := ⟨_, rfl⟩
            have n6 : H6.next = H.next := by rw [hH6, Heap.next_set, n5]
            have gw6 : H6.get wid = some (.box false [srcF l, S', .sl (H.next + 6) 0 (w.refs.length + 1), int p.deep, .mp mid]) := by rw [hH6, Heap.get_set_self _ lw5]
            have pw5 : ∀ L, (hx H4 L).set wid (.box false [srcF l, S', .sl (H.next + 6) 0 (w.refs.length + 1), int w.depth, .mp mid]) = hx H5 L := fun L => by rw [hH5, hx_set_old _ _ _ _ lw4]
            have pw6 : ∀ L, (hx H5 L).set wid (.box false [srcF l, S', .sl (H.next + 6) 0 (w.refs.length + 1), int p.deep, .mp mid]) = hx H6 L := fun L => by rw [hH6, hx_set_old _ _ _ _ lw5]
            have ow4 := get_old gw4
            have ow5 := get_old gw5
            have o1' : S'.one = true := by rcases rI4 with ⟨h, _⟩ | ⟨h, _⟩ <;> rw [h] <;> rfl
            have oc' : S'.cells = [S'] := by rcases rI4 with ⟨h, _⟩ | ⟨h, _⟩ <;> rw [h] <;> rfl
            have rI : ∀ (l : List ItemM) (H : Heap), rowsOf H (encI l) = some (l.map itemC) := fun _ _ => rfl
            have sS : sids [S'] = some [] ∨ sids [S'] = some [H.next + 7] := by rcases rI4 with ⟨h, _⟩ | ⟨h, _⟩ <;> rw [h] <;> simp only [↓vp, vq0, vq1, vq2, vq3, vr0, vr1, vr2, vr3, vr4, vr5, vr6, vr7, vr8, vr9, vr10, vr11, vr12, vr13, vr14, vr15, vr16, vr17, vr18, vr19, vr20, vr21, vr22, vr23, vr24, vr25, vr26, vr27, vr28, vr29, vr30, vr31, vr32, vr33, vr34, opS, fpS, okP, pack, nAl, allocA, shId, leaves, fillA, fillR, splice, Nat.reduceLT, Nat.reduceEqDiff, Nat.reduceLeDiff, Nat.reduceAdd, Nat.reduceSub, Nat.reduceMul, Int.reduceBEq, Int.reduceBNe, Int.reduceLT, Int.reduceLE, Int.reduceEq, reduceIte, reduceCtorEq] <;> simp
            obtain ⟨tS, sS, hS⟩ : ∃ tS, sids [S'] = some tS ∧ compat (some (false, [H.next])) (some (true, wid :: tS)) = true := by
              rcases sS with h | h
              · exact ⟨_, h, by simp [compat]; omega⟩
              · exact ⟨_, h, by simp [compat]; omega⟩
            have hg7 : ∀ (a b c d e f g : Blk), [a, b, c, d, e, f, g, .dead][7]? = some .dead := fun _ _ _ _ _ _ _ => rfl
            simp only [int] at pw5 pw6 ow4 ow5
            clear hi rI1 rI2 rI3 g2 hw
            simp only [↓vp, vq0, vq1, vq2, vq3, vr0, vr1, vr2, vr3, vr4, vr5, vr6, vr7, vr8, vr9, vr10, vr11, vr12, vr13, vr14, vr15, vr16, vr17, vr18, vr19, vr20, vr21, vr22, vr23, vr24, vr25, vr26, vr27, vr28, vr29, vr30, vr31, vr32, vr33, vr34, opS, fpS, okP, pack, nAl, allocA, shId, leaves, fillA, fillR, splice, Nat.reduceLT, Nat.reduceEqDiff, Nat.reduceLeDiff, Nat.reduceAdd, Nat.reduceSub, Nat.reduceMul, Int.reduceBEq, Int.reduceBNe, Int.reduceLT, Int.reduceLE, Int.reduceEq, reduceIte, reduceCtorEq, da, int, boolA, cl, c6, ca, c0, c1, e1, ow, om, x45, x68, hpv, e2, hR, RetE_go, resT, resC, resN, retV2, nw0, nwk, look_go, lk, keyOk, Option.getD_none, mput_go, ps, pm1, ow1, n1, n2, n3, clI, apR, pw1, ow2, ow3, e5, rI, apI, n4, n5, n6, ow4, ow5, pw5, pw6, o1', oc', sS, clI]
            have gm6 : H6.get mid = some (.mpb (some .i64) (seenE (w.refs ++ [p.ref]))) := by rw [hH6, Heap.get_set_ne _ hmw, hH5, Heap.get_set_ne _ hmw, gm4]
            have K6 : Keep wid H H6 := K4.trans ⟨by omega, fun id fz c hid hg => by rw [hH6, Heap.get_set_ne _ hid, hH5, Heap.get_set_ne _ hid, hg]⟩
            have hN : ∀ L, (hx H6 L).get (H.next + 7) = L[7]? := fun L => hx_getN n6
            have hN6 : ∀ L, (hx H6 L).get (H.next + 6) = L[6]? := fun L => hx_getN n6
            refine ⟨?_, ⟨S', .sl (H.next + 6) 0 (w.refs.length + 1), get_old gw6 _, ?_, .inr ⟨H.next + 6, by simp, by rw [hN6]; simp [intC, int]⟩, get_old gm6 _⟩, K6.trans (Keep.hx _)⟩
            · rw [Bool.and_eq_true]
              exact ⟨cpt, hS⟩
            · rcases rI4 with ⟨h, h'⟩ | ⟨h, h'⟩
              · exact .inl ⟨h, by rw [h']; rfl⟩
              · refine .inr ⟨H.next + 7, by rw [h]; simp, ?_⟩
                rw [hN, h', List.map_append]
                rfl
end Go.VI
