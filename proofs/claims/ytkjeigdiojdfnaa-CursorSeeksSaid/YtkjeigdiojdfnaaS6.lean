import Derived.Test.YtkjeigdiojdfnaaS5
/- What the claim hangs on, part 6: CM CN CP. -/
set_option linter.unusedVariables false
set_option linter.unusedSimpArgs false
set_option maxRecDepth 100000
namespace Go.VI
attribute [local congr] AW_congr OW_congr DW_congr NW_congr VW_congr GW_congr PW_congr KW_congr ite_congr' GV_congr CV_congr
theorem AW_rangeF {ft : FT} {f : Operand} {ps : List Nat} {asg body : ACode} {e : Env} {H : Heap} {Q : AExit → Env → Heap → Prop} (hg : isGo ft (ev e f) = true)
    (h : ∃ v H1, callL ft (ev e f) [.yld H.next] (H.push (.loop .ready e ps asg body none)) = some (v, H1) ∧ ∃ x e' H', rangeE H.next e H1 = some (x, e', H') ∧ Q x e' H') : AW ft (.rangeF f ps asg body) e H Q := by
  obtain ⟨v, H1, h1, x, e', H', h2, h3⟩ := h
  refine ⟨x, e', H', ?_, h3⟩
  rw [execL_rangeF, if_pos hg, h1]
  exact h2
/-- A round whose body comes to its end. -/
theorem yld_of {ft : FT} {id : Nat} {K : Heap} {args : List AV} {e : Env} {ps : List Nat} {body : ACode} {R : Heap → Prop} (hg : K.get id = some (.loop .ready e ps .skip body none)) (hl : args.length = ps.length)
    (h : AW ft body (setAll e ps args) (K.set id (.loop .busy e ps .skip body none)) fun x _ H2 => x = .normal ∧ H2.get id = some (.loop .busy e ps .skip body none) ∧ R (H2.set id (.loop .ready e ps .skip body none))) :
    ∃ K', callL ft (.yld id) args K = some (.sc (.bool true), K') ∧ R K' := by
  obtain ⟨x, e', H2, h1, rfl, h2, h3⟩ := h
  refine ⟨_, ?_, h3⟩
  show roundA (execL ft) id args K = _
  unfold roundA
  rw [hg]
  simp only
  rw [if_pos hl, execL_skip]
  simp only [Option.bind_some, if_true]
  have hb : roundB id K = some (K.set id (.loop .busy e ps .skip body none)) := by unfold roundB; rw [hg]
  rw [hb]
  simp only [Option.bind_some, h1]
  unfold roundE
  rw [h2]
  rfl
/-- What a loop's rounds do: from a state to the next one; blocks of Y alone turn. -/
structure Yd (id : Nat) (Y : List Nat) (N : Nat) (J : Nat → Heap → Prop) : Prop where
  run : ∀ m K x, J m K → m < N → ∃ K', callL ft (.yld id) [.agg (itemC x)] K = some (.sc (.bool true), K') ∧ J (m + 1) K' ∧ K'.next = K.next ∧ ∀ j, j ∉ Y → K'.get j = K.get j
  st : ∀ m K K', J m K → (∀ j, j = id ∨ j ∈ Y → K'.get j = K.get j) → J m K'
  lt : ∀ m K, J m K → id < K.next ∧ ∀ j ∈ Y, j < K.next
theorem get_of_lt {K : Heap} {j : Nat} (h : j < K.next) : ∃ b, K.get j = some b := by
  simp only [Heap.next, Heap.get] at *
  exact ⟨_, List.getElem?_eq_getElem h⟩
/-- Answers of a source that may tell an error: right, or that error. -/
def Maybe (g : Prop) (nd : Int → NodeM × Int) (root : Int) (its : List ItemM) (at_ : Int) (r : Ans × List StepM) : Prop := Right nd root its at_ r ∨ (¬ g ∧ r = (((nilI, false), 10), []))
def cnt (its : List ItemM) (at_ : Int) : Nat := if at_ = -1 then 0 else its.length - at_.toNat
theorem told_has {nd : Int → NodeM × Int} {root : Int} {its : List ItemM} {ws : List StepM} {i : Nat} (h : Good nd root its ws i) : ∃ x, its[i]? = some x ∧ told its i = (x, true) := by
  obtain ⟨x, hx, _⟩ := Good_here h
  refine ⟨x, hx, ?_⟩
  unfold told
  rw [if_pos (by omega), Int.toNat_natCast, hx]
theorem l64 {g : Prop} {nd nd0 : Int → NodeM × Int} {sv : AV} {P : Heap → Prop} (hv : SrcV [] nd sv P) (hP : ∀ K, P K) {root : Int} {its : List ItemM}
    (hnext : ∀ (i : Nat) ws, Good nd0 root its ws i → Maybe g nd0 root its (if (i : Int) + 1 = its.length then -1 else (i : Int) + 1) (stepN nd root true ws))
    (hok : ∀ ws at_, Rel nd0 root its ws at_ → okCs ws ∧ ws.length ≤ 999000000 ∧ ∀ s, ws.getLast? = some s → 0 ≤ s.k ∧ s.k ≤ 1000)
    {id : Nat} {Y : List Nat} {N : Nat} {J : Nat → Heap → Prop} (hy : Yd id Y N J) (cid rid base T : Nat) (hb : id < base ∧ ∀ j ∈ Y, j < base) (hcb : base ≤ cid ∧ base ≤ rid) (hN : T ≤ N) {Q : AExit → Env → Heap → Prop}
    (hex : ∀ f' K m, J m K → m ≤ T → (g → m = T) → Q (.exit 0) (mkE 33 f') (hx K [])) :
    ∀ (d : Nat) (at_ : Int) (ws : List StepM) (lv : AV) (m : Nat) (K : Heap) (f : Nat → AV), cnt its at_ ≤ d → Cur K cid sv root lv ws → Rel nd0 root its ws at_ → J m K → (g → m + cnt its at_ = T) → m + cnt its at_ ≤ T →
      (∀ j, OwnC K cid j → base ≤ j) → ¬ OwnC K cid rid → K.get rid = some (.box false (itemR (told its at_))) → f 0 = .yld id → f 5 = .ptr cid 0 0 → f 6 = .ptr rid 0 0 → f 7 = boolA (told its at_).2 →
      AW ft (.loop c64L0) (mkE 33 f) (hx K []) Q := by
  intro d
  induction d with
  | zero =>
    intro at_ ws lv m K f hd hc hr hJ hg1 hg2 how hro hrg f0 f5 f6 f7
    have hat : at_ = -1 := by
      rcases hr with ⟨_, rfl⟩ | ⟨i, rfl, hg⟩
      · rfl
      · obtain ⟨x, hxx, _⟩ := Good_here hg
        have := (List.getElem?_eq_some_iff.1 hxx).1
        unfold cnt at hd
        rw [if_neg (by omega), Int.toNat_natCast] at hd
        omega
    subst hat
    have e0 : cnt its (-1) = 0 := rfl
    rw [e0] at hg1 hg2
    have e1 : (told its (-1)).2 = false := rfl
    rw [e1] at f7
    rw [AW_loop]
    unfold c64L0
    simp only [↓vp, vq0, vq1, vq2, vq3, vr0, vr1, vr2, vr3, vr4, vr5, vr6, vr7, vr8, vr9, vr10, vr11, vr12, vr13, vr14, vr15, vr16, vr17, vr18, vr19, vr20, vr21, vr22, vr23, vr24, vr25, vr26, vr27, vr28, vr29, vr30, vr31, vr32, vr33, vr34, opS, fpS, okP, pack, nAl, allocA, shId, leaves, fillA, fillR, splice, Nat.reduceLT, Nat.reduceEqDiff, Nat.reduceLeDiff, Nat.reduceAdd, Nat.reduceSub, Nat.reduceMul, Int.reduceBEq, Int.reduceBNe, Int.reduceLT, Int.reduceLE, Int.reduceEq, reduceIte, reduceCtorEq, da, int, boolA, f7]
    exact hex _ _ m hJ (by omega) (fun h => by have := hg1 h; omega)
  | succ d ih =>
    intro at_ ws lv m K f hd hc hr hJ hg1 hg2 how hro hrg f0 f5 f6 f7
    rcases hr with ⟨hws, rfl⟩ | ⟨i, rfl, hg⟩
    · have e0 : cnt its (-1) = 0 := rfl
      rw [e0] at hg1 hg2
      have e1 : (told its (-1)).2 = false := rfl
      rw [e1] at f7
      rw [AW_loop]
      unfold c64L0
      simp only [↓vp, vq0, vq1, vq2, vq3, vr0, vr1, vr2, vr3, vr4, vr5, vr6, vr7, vr8, vr9, vr10, vr11, vr12, vr13, vr14, vr15, vr16, vr17, vr18, vr19, vr20, vr21, vr22, vr23, vr24, vr25, vr26, vr27, vr28, vr29, vr30, vr31, vr32, vr33, vr34, opS, fpS, okP, pack, nAl, allocA, shId, leaves, fillA, fillR, splice, Nat.reduceLT, Nat.reduceEqDiff, Nat.reduceLeDiff, Nat.reduceAdd, Nat.reduceSub, Nat.reduceMul, Int.reduceBEq, Int.reduceBNe, Int.reduceLT, Int.reduceLE, Int.reduceEq, reduceIte, reduceCtorEq, da, int, boolA, f7]
      exact hex _ _ m hJ (by omega) (fun h => by have := hg1 h; omega)
    · obtain ⟨x, hxx, e1⟩ := told_has hg
      have hxl := (List.getElem?_eq_some_iff.1 hxx).1
      have ec : cnt its i = its.length - i := by unfold cnt; rw [if_neg (by omega), Int.toNat_natCast]
      rw [ec] at hd hg1 hg2
      rw [e1] at f7 hrg
      have hrg' : K.get rid = some (.box false (itemC x)) := hrg
      have or := get_old hrg'
      obtain ⟨hlt1, hlt2⟩ := hy.lt m K hJ
      rw [AW_loop]
      unfold c64L0
      simp only [↓vp, vq0, vq1, vq2, vq3, vr0, vr1, vr2, vr3, vr4, vr5, vr6, vr7, vr8, vr9, vr10, vr11, vr12, vr13, vr14, vr15, vr16, vr17, vr18, vr19, vr20, vr21, vr22, vr23, vr24, vr25, vr26, vr27, vr28, vr29, vr30, vr31, vr32, vr33, vr34, opS, fpS, okP, pack, nAl, allocA, shId, leaves, fillA, fillR, splice, Nat.reduceLT, Nat.reduceEqDiff, Nat.reduceLeDiff, Nat.reduceAdd, Nat.reduceSub, Nat.reduceMul, Int.reduceBEq, Int.reduceBNe, Int.reduceLT, Int.reduceLE, Int.reduceEq, reduceIte, reduceCtorEq, da, int, boolA, f0, f6, f7, or]
      have hrun := hy.run m (hx K []) x (by rw [hx_nil]; exact hJ) (by omega)
      rw [hx_nil] at hrun
      refine KW_ex (P := fun K1 => J (m + 1) K1 ∧ K1.next = K.next ∧ ∀ j, j ∉ Y → K1.get j = K.get j) (by rw [hx_nil]; exact hrun) fun K1 hK1 => ?_
      obtain ⟨j1, j2, j3⟩ := hK1
      have ncY : cid ∉ Y := fun h => by have := hb.2 _ h; omega
      have nrY : rid ∉ Y := fun h => by have := hb.2 _ h; omega
      have own1 : ∀ j, OwnC K1 cid j ↔ OwnC K cid j := fun j => by
        unfold OwnC
        rw [j3 cid ncY]
      have cur1 : Cur K1 cid sv root lv ws := by
        refine ⟨by rw [j3 cid ncY]; exact hc.1, ?_⟩
        rcases hc.2 with h | ⟨id', rs, e, h2, h3⟩
        · exact .inl h
        · refine .inr ⟨id', rs, e, ?_, h3⟩
          have := how id' (.inr ⟨sv, int root, 0, ws.length, by rw [hc.1, e]⟩)
          rw [j3 id' (fun h => by have := hb.2 _ h; omega)]
          exact h2
      have rg1 : K1.get rid = some (.box false (itemC x)) := by rw [j3 rid nrY]; exact hrg'
      rw [← hx_nil K1]
      simp only [↓vp, vq0, vq1, vq2, vq3, vr0, vr1, vr2, vr3, vr4, vr5, vr6, vr7, vr8, vr9, vr10, vr11, vr12, vr13, vr14, vr15, vr16, vr17, vr18, vr19, vr20, vr21, vr22, vr23, vr24, vr25, vr26, vr27, vr28, vr29, vr30, vr31, vr32, vr33, vr34, opS, fpS, okP, pack, nAl, allocA, shId, leaves, fillA, fillR, splice, Nat.reduceLT, Nat.reduceEqDiff, Nat.reduceLeDiff, Nat.reduceAdd, Nat.reduceSub, Nat.reduceMul, Int.reduceBEq, Int.reduceBNe, Int.reduceLT, Int.reduceLE, Int.reduceEq, reduceIte, reduceCtorEq, da, int, boolA, f5]
      obtain ⟨o1, o2, o3⟩ := hok ws i (.inr ⟨i, rfl, hg⟩)
      refine KW_ex (s34 hv ⟨by simp, by simp⟩ (hP _) (cur1.hx []) o1 o2 o3) fun H' hP' => ?_
      rw [hx_nil] at hP'
      obtain ⟨lv', p1, p2⟩ := hP'
      have gq4 := p2.old _ _ rg1 (fun h => hro ((own1 _).1 h)) (by simp)
      have ho4 : ¬ OwnC H' cid rid := fun h => by
        rcases p2.own _ h with h | h
        · exact hro ((own1 _).1 h)
        · have := Heap.get_lt rg1; omega
      have how4 : ∀ j, OwnC H' cid j → base ≤ j := fun j h => by
        rcases p2.own _ h with h | h
        · exact how j ((own1 _).1 h)
        · have := Heap.get_lt hc.1; omega
      obtain ⟨t1, t2, t3⟩ := tail_box gq4
      have hJ4 : ∀ b, J (m + 1) (H'.set rid b) := fun b => hy.st _ K1 _ j1 fun j hj => by
        have hjb : j < base := by rcases hj with rfl | hj; exact hb.1; exact hb.2 _ hj
        obtain ⟨l1, l2⟩ := hy.lt _ _ j1
        have hjl : j < K1.next := by rcases hj with rfl | hj; exact l1; exact l2 _ hj
        obtain ⟨bb, hbb⟩ := get_of_lt hjl
        rw [Heap.get_set_ne _ (by omega), hbb]
        exact p2.old _ _ hbb (fun h => by have := how j ((own1 _).1 h); omega) (by simp)
      rw [← hx_nil H']
      have l4 : (itemC x).length = 4 := rfl
      have d4 : (itemC x).drop 4 = [] := rfl
      have hnx := hnext i ws hg
      generalize stepN nd root true ws = r at hnx p1
      unfold ansV
      simp only [↓vp, vq0, vq1, vq2, vq3, vr0, vr1, vr2, vr3, vr4, vr5, vr6, vr7, vr8, vr9, vr10, vr11, vr12, vr13, vr14, vr15, vr16, vr17, vr18, vr19, vr20, vr21, vr22, vr23, vr24, vr25, vr26, vr27, vr28, vr29, vr30, vr31, vr32, vr33, vr34, opS, fpS, okP, pack, nAl, allocA, shId, leaves, fillA, fillR, splice, Nat.reduceLT, Nat.reduceEqDiff, Nat.reduceLeDiff, Nat.reduceAdd, Nat.reduceSub, Nat.reduceMul, Int.reduceBEq, Int.reduceBNe, Int.reduceLT, Int.reduceLE, Int.reduceEq, reduceIte, reduceCtorEq, da, int, boolA, f6, ir_one, ir_len, t1, t2, t3, l4, d4]
      rcases hnx with hR | ⟨hng, rfl⟩
      · obtain ⟨hR1, hR2⟩ := hR
        generalize hat : (if (i : Int) + 1 = its.length then (-1 : Int) else (i : Int) + 1) = at1 at *
        have hc1 : cnt its at1 + 1 = its.length - i := by
          rw [← hat]
          unfold cnt
          split
          · rw [if_pos rfl]; omega
          · rw [if_neg (by omega)]; omega
        refine ih at1 r.2 lv' (m + 1) _ _ (by omega) (cur_set p1 ho4 _) hR2 (hJ4 _) (fun h => by have := hg1 h; omega) (by omega) (fun j h => how4 j ?_) ?_ ?_ ?_ ?_ ?_ ?_
        · rcases h with h | ⟨s, r, o, l, h⟩
          · exact .inl h
          · rw [Heap.get_set_ne _ (fun e => ho4 (.inl e.symm))] at h; exact .inr ⟨s, r, o, l, h⟩
        · intro h
          rcases h with h | ⟨s, r, o, l, h⟩
          · exact ho4 (.inl h)
          · rw [Heap.get_set_ne _ (fun e => ho4 (.inl e.symm))] at h; exact ho4 (.inr ⟨s, r, o, l, h⟩)
        · rw [Heap.get_set_self _ (Heap.get_lt gq4), hR1]
        all_goals simp only [↓vp, vq0, vq1, vq2, vq3, vr0, vr1, vr2, vr3, vr4, vr5, vr6, vr7, vr8, vr9, vr10, vr11, vr12, vr13, vr14, vr15, vr16, vr17, vr18, vr19, vr20, vr21, vr22, vr23, vr24, vr25, vr26, vr27, vr28, vr29, vr30, vr31, vr32, vr33, vr34, opS, fpS, okP, pack, nAl, allocA, shId, leaves, fillA, fillR, splice, Nat.reduceLT, Nat.reduceEqDiff, Nat.reduceLeDiff, Nat.reduceAdd, Nat.reduceSub, Nat.reduceMul, Int.reduceBEq, Int.reduceBNe, Int.reduceLT, Int.reduceLE, Int.reduceEq, reduceIte, reduceCtorEq, da, int, boolA, f0, f5, f6, hR1]
      · have hc1 : cnt its (-1) = 0 := rfl
        have hR1 : told its (-1) = (nilI, false) := rfl
        refine ih (-1) [] lv' (m + 1) _ _ (by omega) (cur_set p1 ho4 _) (.inl ⟨rfl, rfl⟩) (hJ4 _) (fun h => absurd h hng) (by omega) (fun j h => how4 j ?_) ?_ ?_ ?_ ?_ ?_ ?_
        · rcases h with h | ⟨s, r, o, l, h⟩
          · exact .inl h
          · rw [Heap.get_set_ne _ (fun e => ho4 (.inl e.symm))] at h; exact .inr ⟨s, r, o, l, h⟩
        · intro h
          rcases h with h | ⟨s, r, o, l, h⟩
          · exact ho4 (.inl h)
          · rw [Heap.get_set_ne _ (fun e => ho4 (.inl e.symm))] at h; exact ho4 (.inr ⟨s, r, o, l, h⟩)
        · rw [Heap.get_set_self _ (Heap.get_lt gq4), hR1]
        all_goals simp only [↓vp, vq0, vq1, vq2, vq3, vr0, vr1, vr2, vr3, vr4, vr5, vr6, vr7, vr8, vr9, vr10, vr11, vr12, vr13, vr14, vr15, vr16, vr17, vr18, vr19, vr20, vr21, vr22, vr23, vr24, vr25, vr26, vr27, vr28, vr29, vr30, vr31, vr32, vr33, vr34, opS, fpS, okP, pack, nAl, allocA, shId, leaves, fillA, fillR, splice, Nat.reduceLT, Nat.reduceEqDiff, Nat.reduceLeDiff, Nat.reduceAdd, Nat.reduceSub, Nat.reduceMul, Int.reduceBEq, Int.reduceBNe, Int.reduceLT, Int.reduceLE, Int.reduceEq, reduceIte, reduceCtorEq, da, int, boolA, f0, f5, f6, hR1]
def eachF (sv : AV) (root : Int) (key : Bytes) : AV := .fn (.func 64) [] [.pim [[sv]] 0 0, .pim [[int root]] 0 0, .pim [[encB key]] 0 0]
theorem s64 {g : Prop} {nd nd0 : Int → NodeM × Int} {sv : AV} {P : Heap → Prop} (hv : SrcV [] nd sv P) (hP : ∀ K, P K) {root : Int} {its : List ItemM} {key : Bytes} (hkey : okB key) {at0 : Int}
    (hseek : Maybe g nd0 root its at0 (seekC nd root key))
    (hnext : ∀ (i : Nat) ws, Good nd0 root its ws i → Maybe g nd0 root its (if (i : Int) + 1 = its.length then -1 else (i : Int) + 1) (stepN nd root true ws))
    (hok : ∀ ws at_, Rel nd0 root its ws at_ → okCs ws ∧ ws.length ≤ 999000000 ∧ ∀ s, ws.getLast? = some s → 0 ≤ s.k ∧ s.k ≤ 1000)
    {id : Nat} {Y : List Nat} {N : Nat} {J : Nat → Heap → Prop} (hy : Yd id Y N J) {H : Heap} {m0 : Nat} (hJ : J m0 H) (hN : m0 + cnt its at0 ≤ N) :
    ∃ H', callL ft (eachF sv root key) [.yld id] H = some (.tup [], H') ∧ ∃ m, J m H' ∧ m ≤ m0 + cnt its at0 ∧ (g → m = m0 + cnt its at0) := by
  refine call_oE (caps := [.pim [[sv]] 0 0, .pim [[int root]] 0 0, .pim [[encB key]] 0 0]) rfl (by simp) ?_
  obtain ⟨hb1, hb2⟩ := hy.lt _ _ hJ
  have ip : ∀ a b c, isnilA 1 (.ptr a b c) = some false := fun _ _ _ => rfl
  have q30 := fun K L Q => (KW_of (s30 hv (hx K L) root) : KW ft (.fn (.func 30) [] []) [sv, int root] (hx K L) Q ↔ _)
  simp only [int] at q30
  have c1 : ∀ H off n, cellsAt H (.pim [[sv]] 0 off) n = if off + n ≤ 1 then some ((([sv] : List AV).drop off).take n) else none := fun _ _ _ => rfl
  have c2 : ∀ H off n, cellsAt H (.pim [[int root]] 0 off) n = if off + n ≤ 1 then some ((([int root] : List AV).drop off).take n) else none := fun _ _ _ => rfl
  have c3 : ∀ H off n, cellsAt H (.pim [[encB key]] 0 off) n = if off + n ≤ 1 then some ((([encB key] : List AV).drop off).take n) else none := fun _ _ _ => rfl
  simp only [int] at c2
  unfold c64
  simp only [↓vp, vq0, vq1, vq2, vq3, vr0, vr1, vr2, vr3, vr4, vr5, vr6, vr7, vr8, vr9, vr10, vr11, vr12, vr13, vr14, vr15, vr16, vr17, vr18, vr19, vr20, vr21, vr22, vr23, vr24, vr25, vr26, vr27, vr28, vr29, vr30, vr31, vr32, vr33, vr34, opS, fpS, okP, pack, nAl, allocA, shId, leaves, fillA, fillR, splice, Nat.reduceLT, Nat.reduceEqDiff, Nat.reduceLeDiff, Nat.reduceAdd, Nat.reduceSub, Nat.reduceMul, Int.reduceBEq, Int.reduceBNe, Int.reduceLT, Int.reduceLE, Int.reduceEq, reduceIte, reduceCtorEq, da, int, boolA, c1, c2, c3, q30, hx_hx, ip]
  have hc0 : Cur (hx H [.box false [sv, int root, .sc (.slice none 0 0)]]) H.next sv root (.sc (.slice none 0 0)) [] := ⟨by rw [hx_get0]; rfl, .inl ⟨rfl, rfl⟩⟩
  refine KW_ex (s37 hv ⟨by simp, by simp⟩ (hP _) hc0 hkey (nb_B key)) fun H' hP' => ?_
  obtain ⟨lv', p1, p2⟩ := hP'
  have own0 : ∀ j, OwnC (hx H [.box false [sv, int root, .sc (.slice none 0 0)]]) H.next j → H.next ≤ j := fun j h => by
    rcases h with h | ⟨s, r, o, l, h⟩
    · omega
    · rw [hc0.1] at h
      simp at h
  have how : ∀ j, OwnC H' H.next j → H.next ≤ j := fun j h => by
    rcases p2.own _ h with h | h
    · exact own0 j h
    · rw [hx_next] at h; omega
  have hle := p2.le
  rw [hx_next] at hle
  have hJ' : ∀ b, J m0 (hx H' [b]) := fun b => hy.st _ H _ hJ fun j hj => by
    have hjl : j < H.next := by rcases hj with rfl | hj; exact hb1; exact hb2 _ hj
    obtain ⟨bb, hbb⟩ := get_of_lt hjl
    rw [hbb]
    exact get_old (p2.old _ _ (get_old hbb _) (fun h => by have := own0 j h; omega) (by simp)) _
  have own' : ∀ (b : Blk) j, OwnC (hx H' [b]) H.next j → OwnC H' H.next j := fun b j h => own_hx (Heap.get_lt p1.1) h
  have hrid : ∀ b, ¬ OwnC (hx H' [b]) H.next H'.next := fun b h => by have := own_lt p1 (own' b _ h); omega
  rw [← hx_nil H']
  generalize seekC nd root key = r at hseek p1
  unfold ansV
  have i4 : ∀ q, (itemR q).length = 4 := ir_len
  simp only [↓vp, vq0, vq1, vq2, vq3, vr0, vr1, vr2, vr3, vr4, vr5, vr6, vr7, vr8, vr9, vr10, vr11, vr12, vr13, vr14, vr15, vr16, vr17, vr18, vr19, vr20, vr21, vr22, vr23, vr24, vr25, vr26, vr27, vr28, vr29, vr30, vr31, vr32, vr33, vr34, opS, fpS, okP, pack, nAl, allocA, shId, leaves, fillA, fillR, splice, Nat.reduceLT, Nat.reduceEqDiff, Nat.reduceLeDiff, Nat.reduceAdd, Nat.reduceSub, Nat.reduceMul, Int.reduceBEq, Int.reduceBNe, Int.reduceLT, Int.reduceLE, Int.reduceEq, reduceIte, reduceCtorEq, da, int, boolA, ir_one, ir_len]
  rw [← hx_nil (hx _ _)]
  have hq0 : ∀ b, (hx H' [b]).get H'.next = some b := fun b => by rw [hx_get0]; rfl
  rcases hseek with ⟨hR1, hR2⟩ | ⟨hng, rfl⟩
  · refine l64 hv hP hnext hok hy H.next H'.next H.next (m0 + cnt its at0) ⟨hb1, hb2⟩ ⟨Nat.le_refl _, by omega⟩ hN (fun f' K m hJm hm1 hm2 => ?_) (cnt its at0) at0 r.2 lv' m0 (hx H' [.box false (itemR r.1.1)]) _ (Nat.le_refl _) (p1.hx _) hR2 (hJ' _) (fun _ => rfl) (Nat.le_refl _) (fun j h => how j (own' _ _ h)) (hrid _) (by rw [hq0, hR1]) ?_ ?_ ?_ ?_
    · unfold r64
      simp only [↓vp, vq0, vq1, vq2, vq3, vr0, vr1, vr2, vr3, vr4, vr5, vr6, vr7, vr8, vr9, vr10, vr11, vr12, vr13, vr14, vr15, vr16, vr17, vr18, vr19, vr20, vr21, vr22, vr23, vr24, vr25, vr26, vr27, vr28, vr29, vr30, vr31, vr32, vr33, vr34, opS, fpS, okP, pack, nAl, allocA, shId, leaves, fillA, fillR, splice, Nat.reduceLT, Nat.reduceEqDiff, Nat.reduceLeDiff, Nat.reduceAdd, Nat.reduceSub, Nat.reduceMul, Int.reduceBEq, Int.reduceBNe, Int.reduceLT, Int.reduceLE, Int.reduceEq, reduceIte, reduceCtorEq, da, int, boolA, RetE_go, resT, resC, resN, retV0]
      rw [hx_nil]
      exact ⟨m, hJm, hm1, hm2⟩
    all_goals simp only [↓vp, vq0, vq1, vq2, vq3, vr0, vr1, vr2, vr3, vr4, vr5, vr6, vr7, vr8, vr9, vr10, vr11, vr12, vr13, vr14, vr15, vr16, vr17, vr18, vr19, vr20, vr21, vr22, vr23, vr24, vr25, vr26, vr27, vr28, vr29, vr30, vr31, vr32, vr33, vr34, opS, fpS, okP, pack, nAl, allocA, shId, leaves, fillA, fillR, splice, Nat.reduceLT, Nat.reduceEqDiff, Nat.reduceLeDiff, Nat.reduceAdd, Nat.reduceSub, Nat.reduceMul, Int.reduceBEq, Int.reduceBNe, Int.reduceLT, Int.reduceLE, Int.reduceEq, reduceIte, reduceCtorEq, da, int, boolA, hR1]
  · refine l64 hv hP hnext hok hy H.next H'.next H.next (m0 + cnt its at0) ⟨hb1, hb2⟩ ⟨Nat.le_refl _, by omega⟩ hN (fun f' K m hJm hm1 hm2 => ?_) 0 (-1) [] lv' m0 (hx H' [.box false itemN]) _ (Nat.le_refl _) (p1.hx _) (.inl ⟨rfl, rfl⟩) (hJ' _) (fun h => absurd h hng) (Nat.le_add_right _ _) (fun j h => how j (own' _ _ h)) (hrid _) (by rw [hq0]; rfl) ?_ ?_ ?_ ?_
    · unfold r64
      simp only [↓vp, vq0, vq1, vq2, vq3, vr0, vr1, vr2, vr3, vr4, vr5, vr6, vr7, vr8, vr9, vr10, vr11, vr12, vr13, vr14, vr15, vr16, vr17, vr18, vr19, vr20, vr21, vr22, vr23, vr24, vr25, vr26, vr27, vr28, vr29, vr30, vr31, vr32, vr33, vr34, opS, fpS, okP, pack, nAl, allocA, shId, leaves, fillA, fillR, splice, Nat.reduceLT, Nat.reduceEqDiff, Nat.reduceLeDiff, Nat.reduceAdd, Nat.reduceSub, Nat.reduceMul, Int.reduceBEq, Int.reduceBNe, Int.reduceLT, Int.reduceLE, Int.reduceEq, reduceIte, reduceCtorEq, da, int, boolA, RetE_go, resT, resC, resN, retV0]
      rw [hx_nil]
      exact ⟨m, hJm, hm1, hm2⟩
    all_goals first | rfl | (simp only [↓vp, vq0, vq1, vq2, vq3, vr0, vr1, vr2, vr3, vr4, vr5, vr6, vr7, vr8, vr9, vr10, vr11, vr12, vr13, vr14, vr15, vr16, vr17, vr18, vr19, vr20, vr21, vr22, vr23, vr24, vr25, vr26, vr27, vr28, vr29, vr30, vr31, vr32, vr33, vr34, opS, fpS, okP, pack, nAl, allocA, shId, leaves, fillA, fillR, splice, Nat.reduceLT, Nat.reduceEqDiff, Nat.reduceLeDiff, Nat.reduceAdd, Nat.reduceSub, Nat.reduceMul, Int.reduceBEq, Int.reduceBNe, Int.reduceLT, Int.reduceLE, Int.reduceEq, reduceIte, reduceCtorEq, da, int, boolA]; done) | (simp only [↓vp, vq0, vq1, vq2, vq3, vr0, vr1, vr2, vr3, vr4, vr5, vr6, vr7, vr8, vr9, vr10, vr11, vr12, vr13, vr14, vr15, vr16, vr17, vr18, vr19, vr20, vr21, vr22, vr23, vr24, vr25, vr26, vr27, vr28, vr29, vr30, vr31, vr32, vr33, vr34, opS, fpS, okP, pack, nAl, allocA, shId, leaves, fillA, fillR, splice, Nat.reduceLT, Nat.reduceEqDiff, Nat.reduceLeDiff, Nat.reduceAdd, Nat.reduceSub, Nat.reduceMul, Int.reduceBEq, Int.reduceBNe, Int.reduceLT, Int.reduceLE, Int.reduceEq, reduceIte, reduceCtorEq, da, int, boolA]; rfl)
theorem s39 {sv' : AV} {root : Int} {key : Bytes} (h1 : sv'.one = true) (hc : sv'.cells = [sv']) (hz' : ∀ n H, frz (n + 8) H sv' = some (sv', H)) {args : List AV} {H H1 : Heap} (hz : frzCells H args = some ([sv', int root, encB key], H1)) : callL ft (.fn (.func 39) [] []) args H = some (eachF sv' root key, H1) := by
  refine call_p (as' := [sv', int root, encB key]) rfl (by simpa using hz) (by simp) ?_
  unfold c39 r39
  simp only [↓vp, vq0, vq1, vq2, vq3, vr0, vr1, vr2, vr3, vr4, vr5, vr6, vr7, vr8, vr9, vr10, vr11, vr12, vr13, vr14, vr15, vr16, vr17, vr18, vr19, vr20, vr21, vr22, vr23, vr24, vr25, vr26, vr27, vr28, vr29, vr30, vr31, vr32, vr33, vr34, opS, fpS, okP, pack, nAl, allocA, shId, leaves, fillA, fillR, splice, Nat.reduceLT, Nat.reduceEqDiff, Nat.reduceLeDiff, Nat.reduceAdd, Nat.reduceSub, Nat.reduceMul, Int.reduceBEq, Int.reduceBNe, Int.reduceLT, Int.reduceLE, Int.reduceEq, reduceIte, reduceCtorEq, da, int, boolA, h1, hc, RetP_go, resT, resN, retV1, frzFZ, hz']
  rfl
/-- A loop that counts. -/
theorem range_count {g : Prop} {nd nd0 : Int → NodeM × Int} {sv : AV} {P : Heap → Prop} (hv : SrcV [] nd sv P) (hP : ∀ K, P K) {root : Int} {its : List ItemM} {key : Bytes} (hkey : okB key) {at0 : Int}
    (hseek : Maybe g nd0 root its at0 (seekC nd root key))
    (hnext : ∀ (i : Nat) ws, Good nd0 root its ws i → Maybe g nd0 root its (if (i : Int) + 1 = its.length then -1 else (i : Int) + 1) (stepN nd root true ws))
    (hok : ∀ ws at_, Rel nd0 root its ws at_ → okCs ws ∧ ws.length ≤ 999000000 ∧ ∀ s, ws.getLast? = some s → 0 ≤ s.k ∧ s.k ≤ 1000)
    {n t p ns nid : Nat} {f : Nat → AV} {body : ACode} (ht : t < n) (hft : f t = eachF sv root key) (hp : p ≠ ns) (hfn : f ns = .ptr nid 0 0)
    (hbody : ∀ (K : Heap) (f' : Nat → AV) (m : Nat), f' ns = .ptr nid 0 0 → K.get nid = some (.box false [int m]) → m < 1000000 → AW ft body (mkE n f') (hx K []) fun x _ H2 => x = .normal ∧ H2 = K.set nid (.box false [int ((m + 1 : Nat) : Int)]))
    {H : Heap} (hn : H.get nid = some (.box false [int 0])) (hN : cnt its at0 ≤ 1000000) (Z : List Nat) (hZ : ∀ j ∈ Z, j < H.next ∧ j ≠ nid) {Q : AExit → Env → Heap → Prop}
    (hq : ∀ (H' : Heap) (m : Nat), m ≤ cnt its at0 → (g → m = cnt its at0) → H'.get nid = some (.box false [int m]) → (∀ j ∈ Z, H'.get j = H.get j) → Q .normal (mkE n f) H') : AW ft (.rangeF (.tmp t) [p] .skip body) (mkE n f) H Q := by
  have hev : ev (mkE n f) (.tmp t) = eachF sv root key := by rw [ev_tmp, if_pos ht, hft]
  have hnl := Heap.get_lt hn
  have hlp : (H.push (.loop .ready (mkE n f) [p] .skip body none)).get H.next = some (.loop .ready (mkE n f) [p] .skip body none) := by simp
  refine AW_rangeF (by rw [hev]; rfl) ?_
  rw [hev]
  let J : Nat → Heap → Prop := fun m G => G.get H.next = some (.loop .ready (mkE n f) [p] .skip body none) ∧ G.get nid = some (.box false [int (m : Int)]) ∧ ∀ j ∈ Z, G.get j = H.get j
  have hJ0 : J 0 (H.push (.loop .ready (mkE n f) [p] .skip body none)) := ⟨hlp, by rw [Heap.get_push_old _ _ _ hnl]; exact hn, fun j hj => Heap.get_push_old _ _ _ (hZ j hj).1⟩
  have hy : Yd H.next (nid :: Z) 1000000 J := by
    refine ⟨fun m K x hJ hm => ?_, fun m K K' hJ hk => ?_, fun m K hJ => ?_⟩
    · obtain ⟨j1, j2, j3⟩ := hJ
      have l1 := Heap.get_lt j1
      have l2 := Heap.get_lt j2
      have hne : nid ≠ H.next := by omega
      refine yld_of (R := fun K' => J (m + 1) K' ∧ K'.next = K.next ∧ ∀ j, j ∉ nid :: Z → K'.get j = K.get j) j1 rfl ?_
      have hs : setAll (mkE n f) [p] [.agg (itemC x)] = mkE n (upd f p (.agg (itemC x))) := putA_mkE n f p (.agg (itemC x))
      rw [hs, ← hx_nil (K.set _ _)]
      refine AW.mono (hbody _ _ m (by rw [upd_at, if_neg (Ne.symm hp)]; exact hfn) (by rw [Heap.get_set_ne _ hne]; exact j2) hm) fun x' e' H2 hh => ?_
      obtain ⟨rfl, rfl⟩ := hh
      refine ⟨rfl, ?_, ⟨?_, ?_, fun j hj => ?_⟩, by simp, fun j hj => ?_⟩
      · rw [Heap.get_set_ne _ (Ne.symm hne), Heap.get_set_self _ l1]
      · rw [Heap.get_set_self _ (by simpa using l1)]
      · rw [Heap.get_set_ne _ hne, Heap.get_set_self _ (by simpa using l2)]
      · have := (hZ j hj)
        rw [Heap.get_set_ne _ (by omega), Heap.get_set_ne _ this.2, Heap.get_set_ne _ (by omega)]
        exact j3 j hj
      · have h1 : j ≠ nid := fun e => hj (by simp [e])
        by_cases h2 : j = H.next
        · subst h2
          rw [Heap.get_set_self _ (by simpa using l1), j1]
        · rw [Heap.get_set_ne _ h2, Heap.get_set_ne _ h1, Heap.get_set_ne _ h2]
    · obtain ⟨j1, j2, j3⟩ := hJ
      exact ⟨by rw [hk _ (.inl rfl)]; exact j1, by rw [hk nid (.inr (by simp))]; exact j2, fun j hj => by rw [hk j (.inr (by simp [hj]))]; exact j3 j hj⟩
    · obtain ⟨j1, j2, j3⟩ := hJ
      refine ⟨Heap.get_lt j1, fun j hj => ?_⟩
      rcases List.mem_cons.1 hj with rfl | hj
      · exact Heap.get_lt j2
      · obtain ⟨b, hb⟩ := get_of_lt (hZ j hj).1
        rw [← j3 j hj] at hb
        exact Heap.get_lt hb
  obtain ⟨H', h1, m, ⟨k1, k2, k3⟩, hm1, hm2⟩ := s64 hv hP hkey hseek hnext hok hy hJ0 (by omega)
  rw [Nat.zero_add] at hm1 hm2
  refine ⟨_, H', h1, .normal, mkE n f, H'.set H.next .dead, ?_, ?_⟩
  · unfold rangeE
    rw [k1]
  · refine hq _ m hm1 hm2 ?_ fun j hj => ?_
    · rw [Heap.get_set_ne _ (by omega)]; exact k2
    · rw [Heap.get_set_ne _ (by have := (hZ j hj).1; omega)]
      exact k3 j hj
end Go.VI

set_option linter.unusedVariables false
set_option linter.unusedSimpArgs false
set_option maxRecDepth 100000
namespace Go.VI
attribute [local congr] AW_congr OW_congr DW_congr NW_congr VW_congr GW_congr PW_congr KW_congr ite_congr' GV_congr CV_congr
def cItem : ItemM := ⟨[99], [], 0, 0⟩
def dItem : ItemM := ⟨[100], [], 0, 0⟩
def three : List ItemM := [aItem, cItem, dItem]
theorem three_rise : RiseI three := by
  refine List.Pairwise.cons ?_ (List.Pairwise.cons ?_ (List.Pairwise.cons ?_ .nil)) <;> intro x hx <;> simp [cItem, dItem] at hx
  · rcases hx with rfl | rfl <;> decide
  · subst hx; decide
theorem three_ok : okI three := ⟨by decide, fun x hx => by
  simp [three] at hx
  rcases hx with rfl | rfl | rfl <;> exact ⟨⟨by decide, rfl⟩, ⟨by decide, rfl⟩⟩⟩
theorem three_few : fewM (madeM three 1 3).1 = true := by rfl
/-- The tree that alive builds. -/
theorem three_tree : ∃ l root, madeM three 1 3 = (l, root) ∧ okL l ∧ tinyL l ∧ (allM l root).2 = 0 ∧ (allM l root).1.items = three := by
  obtain ⟨a1, a2, _⟩ := made_all three (by decide) 1 3 (by decide) (by decide) three_rise
  have hl := made_ok three three_ok (by decide) 1 3 (by decide) (by decide)
  exact ⟨_, _, rfl, hl, few_tiny hl three_few, a1, a2⟩
theorem x26c {l : List NamedM} {root : Int} (hM : madeM three 1 3 = (l, root)) {K : Heap} {L : List Blk} {id : Nat} {Q : AV → Heap → Prop} (h : (hx K L).get id = some (.row false 4 [[.lst [[.sc (.int .u8 97)]], .lst [], .sc (.int .i64 0), .sc (.int .i64 0)], [.lst [[.sc (.int .u8 99)]], .lst [], .sc (.int .i64 0), .sc (.int .i64 0)], [.lst [[.sc (.int .u8 100)]], .lst [], .sc (.int .i64 0), .sc (.int .i64 0)]])) :
    KW ft (.fn (.func 26) [] []) [.sl id 0 3, .sc (.int .i64 1), .sc (.int .i64 3)] (hx K L) Q ↔ Q (.tup [encL l, int root]) ((hx K L).set id (.row true 4 [itemC aItem, itemC cItem, itemC dItem])) := by
  have := KW_of (K := Q) (s26g three (by decide) 1 3 (by decide) (by decide) ((hx K L).set id (.row true 4 [itemC aItem, itemC cItem, itemC dItem])))
  rw [hM] at this
  exact (KW_eq (callL_fz (bs := [encI three, int 1, int 3]) rfl (by simp only [frzCells_eq, frzL_cons, frzL_nil, frz_int, fz_sl1 (len := 3) h rfl, Option.bind_some]; rfl) rfl)).trans this
/-- Seek, by a key that grows. -/
theorem s37s {l : List NamedM} (hl : okL l) (ht : tinyL l) {H : Heap} {cid : Nat} {root : Int} {lv : AV} {ws : List StepM} (hc : Cur H cid (srcF l) root lv ws) {id : Nat} {b : Int} (hb : okB [b]) (hid : H.get id = some (.row false 1 [[.sc (.int .u8 b)]])) (ho : ¬ OwnC H cid id) :
    ∃ H', callL ft (.fn (.func 37) [] []) [.ptr cid 0 0, .sl id 0 1] H = some (ansV (seekC (nodeM l) root [b]).1, H') ∧ ∃ lv', Cur H' cid (srcF l) root lv' (seekC (nodeM l) root [b]).2 ∧ KeepC cid [id] H H' := by
  have hv := srcV_F hl ht
  have hlt := Heap.get_lt hid
  have hne : cid ≠ id := fun e => ho (.inl e.symm)
  refine s37g hv (X' := [id]) ⟨by simpa using hne, by simpa using hlt⟩ (fun _ h => by simp at h) (fun j hj h => by
    have : j = id := by simpa using h
    subst this
    exact ho hj) hc (fun Q hq => ?_)
  have h1 : callL ft (.fn (.func 16) [] []) [srcF l, .sc (.int .i64 root), .sl id 0 1] (hx H [.box false itemN]) = some (.tup [encS (wayX (pathK [b]) (nodeM l) root).1, int (wayX (pathK [b]) (nodeM l) root).2], hx (H.set id (.row true 1 [[.sc (.int .u8 b)]])) [.box false itemN]) := by
    refine s16x (srcP_F hl ht) root [b] hb ?_
    simp only [frzCells_eq, frzL_cons, frzL_nil, fz_src, frz_int, fz_sl1 (len := 1) (get_old hid _) rfl, Option.bind_some, hx_set_old _ _ _ _ hlt]
    rfl
  refine (KW_of h1).2 (hq _ trivial ⟨by simp, fun j hj => ?_, fun j hj fz c hg => ?_⟩)
  · rw [Heap.get_set_ne _ (by simpa using hj)]
  · have : j = id := by simpa using hj
    subst this
    rw [hid] at hg
    cases hg
theorem x39 {l : List NamedM} {root : Int} {K : Heap} {L : List Blk} {id : Nat} {b : Int} {Q : AV → Heap → Prop} (h : (hx K L).get id = some (.row false 1 [[.sc (.int .u8 b)]])) :
    KW ft (.fn (.func 39) [] []) [srcF l, .sc (.int .i64 root), .sl id 0 1] (hx K L) Q ↔ Q (eachF (srcF l) root [b]) ((hx K L).set id (.row true 1 [[.sc (.int .u8 b)]])) :=
  KW_of (s39 rfl rfl (fun _ _ => rfl) (by
    simp only [frzCells_eq, frzL_cons, frzL_nil, fz_src, frz_int, fz_sl1 (len := 1) h rfl, Option.bind_some]
    rfl))
theorem keep_box {H H' : Heap} {cid i : Nat} {X : List Nat} {b : Blk} (hK : KeepC cid X H H') (h : H.get i = some b) (ho : ¬ OwnC H cid i) (hx : i ∉ X) : H'.get i = some b ∧ ¬ OwnC H' cid i := by
  refine ⟨hK.old _ _ h ho hx, fun h2 => ?_⟩
  rcases hK.own _ h2 with h2 | h2
  · exact ho h2
  · have := Heap.get_lt h; omega
theorem steps3 {l : List NamedM} {root : Int} (h0 : (allM l root).2 = 0) (hits : (allM l root).1.items = three) :
    ((seekC (nodeM l) root [98]).1 = ((cItem, true), 0) ∧ Rel (nodeM l) root three (seekC (nodeM l) root [98]).2 1) ∧
    ∀ w1, Rel (nodeM l) root three w1 1 → ((stepN (nodeM l) root false w1).1 = ((aItem, true), 0) ∧ Rel (nodeM l) root three (stepN (nodeM l) root false w1).2 0) ∧
    ∀ w2, Rel (nodeM l) root three w2 0 → ((stepN (nodeM l) root false w2).1 = ((nilI, false), 0) ∧ Rel (nodeM l) root three (stepN (nodeM l) root false w2).2 (-1)) ∧ (edgeC (nodeM l) root true).1 = ((dItem, true), 0) := by
  have key := fun o ho ws at_ hr => do_good h0 o ho (ws := ws) (at_ := at_) hr
  rw [hits] at key
  refine ⟨?_, fun w1 hw1 => ⟨?_, fun w2 hw2 => ⟨?_, ?_⟩⟩⟩
  · exact key ⟨0, [98]⟩ ⟨by decide, by decide⟩ [] (-1) (.inl ⟨rfl, rfl⟩)
  · exact key ⟨4, []⟩ ⟨by decide, by decide⟩ w1 1 hw1
  · exact key ⟨4, []⟩ ⟨by decide, by decide⟩ w2 0 hw2
  · exact (key ⟨2, []⟩ ⟨by decide, by decide⟩ [] (-1) (.inl ⟨rfl, rfl⟩)).1
theorem keep_boxx {H H' : Heap} {cid i : Nat} {b : Blk} {L : List Blk} (hc : cid < H.next) (h : H.get i = some b) (ho : ¬ OwnC H cid i) (hK : KeepC cid [] (hx H L) H') : H'.get i = some b ∧ ¬ OwnC H' cid i :=
  keep_box hK (get_old h L) (fun h => ho (own_hx hc h)) (by simp)
theorem s28a {l : List NamedM} {root : Int} (hM : madeM three 1 3 = (l, root)) (hl : okL l) (ht : tinyL l) (h0 : (allM l root).2 = 0) (hits : (allM l root).1.items = three) (H : Heap) : callL ft (.fn (.func 28) [] []) [] H = some (boolA true, H) := by
  refine call_p (as' := []) rfl rfl (by simp) ?_
  have hv := srcV_F hl ht
  have ip : ∀ a b c, isnilA 1 (.ptr a b c) = some false := fun _ _ _ => rfl
  have ipn : isnilA 1 (.sc (.pointer none)) = some true := rfl
  have q30 := fun K L Q => (KW_of (s30 hv (hx K L) root) : KW ft (.fn (.func 30) [] []) [srcF l, int root] (hx K L) Q ↔ _)
  have q30n := fun K L Q => (KW_of (s30n (hx K L) root) : KW ft (.fn (.func 30) [] []) [.sc .nilFunc, int root] (hx K L) Q ↔ _)
  simp only [int] at q30 q30n
  unfold c28 r28
  simp only [↓vp, vq0, vq1, vq2, vq3, vr0, vr1, vr2, vr3, vr4, vr5, vr6, vr7, vr8, vr9, vr10, vr11, vr12, vr13, vr14, vr15, vr16, vr17, vr18, vr19, vr20, vr21, vr22, vr23, vr24, vr25, vr26, vr27, vr28, vr29, vr30, vr31, vr32, vr33, vr34, opS, fpS, okP, pack, nAl, allocA, shId, leaves, fillA, fillR, splice, Nat.reduceLT, Nat.reduceEqDiff, Nat.reduceLeDiff, Nat.reduceAdd, Nat.reduceSub, Nat.reduceMul, Int.reduceBEq, Int.reduceBNe, Int.reduceLT, Int.reduceLE, Int.reduceEq, reduceIte, reduceCtorEq, da, int, boolA, clIt, rsz, x26c hM, k17, q30, q30n, hx_hx, ip, ipn]
  obtain ⟨⟨a1, a2⟩, S2⟩ := steps3 h0 hits
  generalize hG : hx Heap.empty _ = G0
  have hc0 : Cur G0 4 (srcF l) root (.sc (.slice none 0 0)) [] := ⟨by rw [← hG, hxe_get]; rfl, .inl ⟨rfl, rfl⟩⟩
  have hk5 : G0.get 5 = some (.row false 1 [[.sc (.int .u8 98)]]) := by rw [← hG, hxe_get]; rfl
  have ho5 : ¬ OwnC G0 4 5 := fun h => by
    rcases h with h | ⟨s, r, o, l, h⟩
    · cases h
    · rw [hc0.1] at h; simp at h
  refine KW_ex (s37s hl ht hc0 (b := 98) ⟨by decide, rfl⟩ hk5 ho5) fun H1 hP1 => ?_
  obtain ⟨lv1, c1, k1⟩ := hP1
  obtain ⟨⟨b1, b2⟩, S3⟩ := S2 _ a2
  obtain ⟨⟨d1, d2⟩, e1⟩ := S3 _ b2
  rw [a1, ← hx_nil H1]
  unfold ansV itemR
  have hok := fun ws at_ (hr : Rel (nodeM l) root three ws at_) => Rel_ok hv.ok hv.tiny hr
  simp only [↓vp, vq0, vq1, vq2, vq3, vr0, vr1, vr2, vr3, vr4, vr5, vr6, vr7, vr8, vr9, vr10, vr11, vr12, vr13, vr14, vr15, vr16, vr17, vr18, vr19, vr20, vr21, vr22, vr23, vr24, vr25, vr26, vr27, vr28, vr29, vr30, vr31, vr32, vr33, vr34, opS, fpS, okP, pack, nAl, allocA, shId, leaves, fillA, fillR, splice, Nat.reduceLT, Nat.reduceEqDiff, Nat.reduceLeDiff, Nat.reduceAdd, Nat.reduceSub, Nat.reduceMul, Int.reduceBEq, Int.reduceBNe, Int.reduceLT, Int.reduceLE, Int.reduceEq, reduceIte, reduceCtorEq, da, int, boolA]
  obtain ⟨o1, o2, o3⟩ := hok _ _ a2
  refine KW_ex (s36 hv ⟨by simp, by simp⟩ trivial (c1.hx _) o1 o2 o3) fun H2 hP2 => ?_
  obtain ⟨lv2, c2, k2⟩ := hP2
  have l1 := Heap.get_lt c1.1
  obtain ⟨x2, y2⟩ := tailC c1 l1 k2 (by simp)
  rw [b1, ← hx_nil H2]
  unfold ansV itemR
  simp only [↓vp, vq0, vq1, vq2, vq3, vr0, vr1, vr2, vr3, vr4, vr5, vr6, vr7, vr8, vr9, vr10, vr11, vr12, vr13, vr14, vr15, vr16, vr17, vr18, vr19, vr20, vr21, vr22, vr23, vr24, vr25, vr26, vr27, vr28, vr29, vr30, vr31, vr32, vr33, vr34, opS, fpS, okP, pack, nAl, allocA, shId, leaves, fillA, fillR, splice, Nat.reduceLT, Nat.reduceEqDiff, Nat.reduceLeDiff, Nat.reduceAdd, Nat.reduceSub, Nat.reduceMul, Int.reduceBEq, Int.reduceBNe, Int.reduceLT, Int.reduceLE, Int.reduceEq, reduceIte, reduceCtorEq, da, int, boolA]
  obtain ⟨o1, o2, o3⟩ := hok _ _ b2
  refine KW_ex (s36 hv ⟨by simp, by simp⟩ trivial (c2.hx _) o1 o2 o3) fun H3 hP3 => ?_
  obtain ⟨lv3, c3, k3⟩ := hP3
  have l2 := Heap.get_lt c2.1
  obtain ⟨x3, y3⟩ := keep_boxx l2 x2 y2 k3
  obtain ⟨xx3, yy3⟩ := tailC c2 l2 k3 (by simp)
  rw [d1, ← hx_nil H3]
  unfold ansV itemR itemN nilI
  simp only [↓vp, vq0, vq1, vq2, vq3, vr0, vr1, vr2, vr3, vr4, vr5, vr6, vr7, vr8, vr9, vr10, vr11, vr12, vr13, vr14, vr15, vr16, vr17, vr18, vr19, vr20, vr21, vr22, vr23, vr24, vr25, vr26, vr27, vr28, vr29, vr30, vr31, vr32, vr33, vr34, opS, fpS, okP, pack, nAl, allocA, shId, leaves, fillA, fillR, splice, Nat.reduceLT, Nat.reduceEqDiff, Nat.reduceLeDiff, Nat.reduceAdd, Nat.reduceSub, Nat.reduceMul, Int.reduceBEq, Int.reduceBNe, Int.reduceLT, Int.reduceLE, Int.reduceEq, reduceIte, reduceCtorEq, da, int, boolA]
  refine KW_ex (s35 hv ⟨by simp, by simp⟩ trivial (c3.hx _)) fun H4 hP4 => ?_
  obtain ⟨lv4, c4, k4⟩ := hP4
  have l3 := Heap.get_lt c3.1
  obtain ⟨x4, y4⟩ := keep_boxx l3 x3 y3 k4
  obtain ⟨xx4, yy4⟩ := keep_boxx l3 xx3 yy3 k4
  rw [e1, ← hx_nil H4]
  unfold ansV itemR
  simp only [↓vp, vq0, vq1, vq2, vq3, vr0, vr1, vr2, vr3, vr4, vr5, vr6, vr7, vr8, vr9, vr10, vr11, vr12, vr13, vr14, vr15, vr16, vr17, vr18, vr19, vr20, vr21, vr22, vr23, vr24, vr25, vr26, vr27, vr28, vr29, vr30, vr31, vr32, vr33, vr34, opS, fpS, okP, pack, nAl, allocA, shId, leaves, fillA, fillR, splice, Nat.reduceLT, Nat.reduceEqDiff, Nat.reduceLeDiff, Nat.reduceAdd, Nat.reduceSub, Nat.reduceMul, Int.reduceBEq, Int.reduceBNe, Int.reduceLT, Int.reduceLE, Int.reduceEq, reduceIte, reduceCtorEq, da, int, boolA, k17, rsz, x39 (b := 98)]
  have l4 := Heap.get_lt c4.1
  have lx := Heap.get_lt x4
  have ly := Heap.get_lt xx4
  have hl34 : H3.next ≤ H4.next := by have := k4.le; rw [hx_next] at this; omega
  have hl23 : H2.next ≤ H3.next := by have := k3.le; rw [hx_next] at this; omega
  have hl12 : H1.next ≤ H2.next := by have := k2.le; rw [hx_next] at this; omega
  refine range_count (g := True) (nd0 := nodeM l) (its := three) (at0 := 1) (key := [98]) hv (fun _ => trivial) ⟨by decide, rfl⟩ (.inl ⟨a1, a2⟩) (fun i ws hg => .inl ?_) hok (ns := 16) (nid := H4.next + 1) (by decide) (by simp only [↓vp, vq0, vq1, vq2, vq3, vr0, vr1, vr2, vr3, vr4, vr5, vr6, vr7, vr8, vr9, vr10, vr11, vr12, vr13, vr14, vr15, vr16, vr17, vr18, vr19, vr20, vr21, vr22, vr23, vr24, vr25, vr26, vr27, vr28, vr29, vr30, vr31, vr32, vr33, vr34, opS, fpS, okP, pack, nAl, allocA, shId, leaves, fillA, fillR, splice, Nat.reduceLT, Nat.reduceEqDiff, Nat.reduceLeDiff, Nat.reduceAdd, Nat.reduceSub, Nat.reduceMul, Int.reduceBEq, Int.reduceBNe, Int.reduceLT, Int.reduceLE, Int.reduceEq, reduceIte, reduceCtorEq]) (by decide) (by simp only [↓vp, vq0, vq1, vq2, vq3, vr0, vr1, vr2, vr3, vr4, vr5, vr6, vr7, vr8, vr9, vr10, vr11, vr12, vr13, vr14, vr15, vr16, vr17, vr18, vr19, vr20, vr21, vr22, vr23, vr24, vr25, vr26, vr27, vr28, vr29, vr30, vr31, vr32, vr33, vr34, opS, fpS, okP, pack, nAl, allocA, shId, leaves, fillA, fillR, splice, Nat.reduceLT, Nat.reduceEqDiff, Nat.reduceLeDiff, Nat.reduceAdd, Nat.reduceSub, Nat.reduceMul, Int.reduceBEq, Int.reduceBNe, Int.reduceLT, Int.reduceLE, Int.reduceEq, reduceIte, reduceCtorEq]) (fun K f' m q1 q2 q3 => ?_) (H := hx H4 [.box false (itemC dItem), .box false [.sc (.int .i64 0)], .row true 1 [[.sc (.int .u8 98)]]]) (by rw [hx_get]; rfl) (by decide) [H1.next, H2.next, H4.next] (fun j hj => ?_) (fun H5 m hm1 hm2 hn5 hZ5 => ?_)
  · have hne := PosI_ne hg.1
    have := mv_good hg 1 (.inl rfl)
    unfold stepN
    rw [if_neg hne]
    exact this
  · unfold c28B0
    have w1 : IntKind.i64.wrap ((m : Int) + 1) = ((m + 1 : Nat) : Int) := by rw [wrap_i64 (by omega)]; omega
    have o1 := get_old q2
    have lK := Heap.get_lt q2
    have p1 := fun L b => hx_set_old K L b (H4.next + 1) lK
    simp only [↓vp, vq0, vq1, vq2, vq3, vr0, vr1, vr2, vr3, vr4, vr5, vr6, vr7, vr8, vr9, vr10, vr11, vr12, vr13, vr14, vr15, vr16, vr17, vr18, vr19, vr20, vr21, vr22, vr23, vr24, vr25, vr26, vr27, vr28, vr29, vr30, vr31, vr32, vr33, vr34, opS, fpS, okP, pack, nAl, allocA, shId, leaves, fillA, fillR, splice, Nat.reduceLT, Nat.reduceEqDiff, Nat.reduceLeDiff, Nat.reduceAdd, Nat.reduceSub, Nat.reduceMul, Int.reduceBEq, Int.reduceBNe, Int.reduceLT, Int.reduceLE, Int.reduceEq, reduceIte, reduceCtorEq, da, int, boolA, q1, o1, w1, p1]
    rw [hx_nil]
  · simp only [List.mem_cons, List.mem_singleton, List.not_mem_nil, or_false] at hj
    rw [hx_next]
    rcases hj with rfl | rfl | rfl <;> constructor <;> simp <;> omega
  · have m2 : m = 2 := hm2 trivial
    subst m2
    have zx : H5.get H1.next = some (.box false (itemC cItem)) := by rw [hZ5 _ (by simp), hx_get_old _ _ _ lx]; exact x4
    have zy : H5.get H2.next = some (.box false (itemC aItem)) := by rw [hZ5 _ (by simp), hx_get_old _ _ _ ly]; exact xx4
    have zz : H5.get H4.next = some (.box false (itemC dItem)) := by rw [hZ5 _ (by simp), hx_get0]; rfl
    have gx := get_old zx
    have gy := get_old zy
    have gz := get_old zz
    have gn := get_old hn5
    have rc : ∀ H, rowsOf H (encB cItem.key) = some [[.sc (.int .u8 99)]] := fun _ => rfl
    have ra : ∀ H, rowsOf H (encB aItem.key) = some [[.sc (.int .u8 97)]] := fun _ => rfl
    have rd : ∀ H, rowsOf H (encB dItem.key) = some [[.sc (.int .u8 100)]] := fun _ => rfl
    have bR : ∀ b, bytesOfRows [[.sc (.int .u8 b)]] = some [b] := fun _ => rfl
    have sE : ∀ (b : Int) (u : UInt8), UInt8.ofNat b.toNat = u → binA .eql 9 (.sc (.string (strOfNums [b]))) (.sc (.string ⟨#[u]⟩)) = some (.sc (.bool true)) := fun b u h => by
      have h : strOfNums [b] = ⟨#[u]⟩ := by simp [strOfNums, h]
      rw [h]
      simp [binA, binOp, Op.stringOp, pureRun, ofScalar, isSc, pure]
    have s1 := sE 99 99 rfl
    have s2 := sE 97 97 rfl
    have s3 := sE 100 100 rfl
    rw [← hx_nil H5]
    simp only [↓vp, vq0, vq1, vq2, vq3, vr0, vr1, vr2, vr3, vr4, vr5, vr6, vr7, vr8, vr9, vr10, vr11, vr12, vr13, vr14, vr15, vr16, vr17, vr18, vr19, vr20, vr21, vr22, vr23, vr24, vr25, vr26, vr27, vr28, vr29, vr30, vr31, vr32, vr33, vr34, opS, fpS, okP, pack, nAl, allocA, shId, leaves, fillA, fillR, splice, Nat.reduceLT, Nat.reduceEqDiff, Nat.reduceLeDiff, Nat.reduceAdd, Nat.reduceSub, Nat.reduceMul, Int.reduceBEq, Int.reduceBNe, Int.reduceLT, Int.reduceLE, Int.reduceEq, reduceIte, reduceCtorEq, da, int, boolA, RetP_go, resT, resC, resN, retV1, retV2, retV3, retV0, frzFZ, takeM, Option.some.injEq, gx, gy, gz, gn, rc, ra, rd, bR, s1, s2, s3]
    rfl
theorem alive28 : Alive 28 := fun K L Q => by
  obtain ⟨l, root, hM, hl, ht, h0, hits⟩ := three_tree
  exact KW_of (s28a hM hl ht h0 hits _)
end Go.VI

set_option linter.unusedVariables false
set_option linter.unusedSimpArgs false
set_option maxRecDepth 100000
namespace Go.VI
attribute [local congr] AW_congr OW_congr DW_congr NW_congr VW_congr GW_congr PW_congr KW_congr ite_congr' GV_congr CV_congr
theorem seek_cut {l : List NamedM} {root : Int} (h : (allM l root).2 = 0) (key : Bytes) : ∃ c, Cut key (allM l root).1.items c ∧ Right (nodeM l) root (allM l root).1.items (if c < (allM l root).1.items.length then (c : Int) else -1) (seekC (nodeM l) root key) := by
  obtain ⟨ws, c, g1, g2, g3, g4⟩ := Tr_seek (all_Tr h) key (by simp [bndM, root0]) (by show (1 : Int) ≤ 1; omega)
  refine ⟨c, g3, ?_⟩
  have h1 := seek_good h ⟨0, key⟩ rfl
  rw [Cut_doF (o := ⟨0, key⟩) rfl rfl _ c 0 g3, Int.zero_add] at h1
  exact h1
theorem law12 (ha : Alive 28) (l : List NamedM) (hl : okL l) (root : Int) (key : Bytes) (hk : okB key) (H : Heap) : callL ft (.fn (.func 12) [] []) [encL l, int root, encB key] H = some (boolA true, H) := by
  refine call_p (as' := [encL l, int root, encB key]) rfl rfl (by simp) ?_
  have ha' := fun K L Q => ha K L Q
  unfold c12 r12
  cases e1 : fewS l [] with
  | false => simp only [↓vp, vq0, vq1, vq2, vq3, vr0, vr1, vr2, vr3, vr4, vr5, vr6, vr7, vr8, vr9, vr10, vr11, vr12, vr13, vr14, vr15, vr16, vr17, vr18, vr19, vr20, vr21, vr22, vr23, vr24, vr25, vr26, vr27, vr28, vr29, vr30, vr31, vr32, vr33, vr34, opS, fpS, okP, pack, nAl, allocA, shId, leaves, fillA, fillR, splice, Nat.reduceLT, Nat.reduceEqDiff, Nat.reduceLeDiff, Nat.reduceAdd, Nat.reduceSub, Nat.reduceMul, Int.reduceBEq, Int.reduceBNe, Int.reduceLT, Int.reduceLE, Int.reduceEq, reduceIte, reduceCtorEq, da, int, boolA, RetP_go, resT, resC, resN, retV1, retV2, retV3, retV0, frzFZ, takeM, Option.some.injEq, k27n, hl, e1, ha' _ _ _]
  | true =>
    by_cases e0 : (100 : Int) < key.length
    · simp only [↓vp, vq0, vq1, vq2, vq3, vr0, vr1, vr2, vr3, vr4, vr5, vr6, vr7, vr8, vr9, vr10, vr11, vr12, vr13, vr14, vr15, vr16, vr17, vr18, vr19, vr20, vr21, vr22, vr23, vr24, vr25, vr26, vr27, vr28, vr29, vr30, vr31, vr32, vr33, vr34, opS, fpS, okP, pack, nAl, allocA, shId, leaves, fillA, fillR, splice, Nat.reduceLT, Nat.reduceEqDiff, Nat.reduceLeDiff, Nat.reduceAdd, Nat.reduceSub, Nat.reduceMul, Int.reduceBEq, Int.reduceBNe, Int.reduceLT, Int.reduceLE, Int.reduceEq, reduceIte, reduceCtorEq, da, int, boolA, RetP_go, resT, resC, resN, retV1, retV2, retV3, retV0, frzFZ, takeM, Option.some.injEq, k27n, hl, e1, e0, gt_iff_lt, ha' _ _ _]
    have hf := few_F e1
    have hlen := few_len hf
    have ht := few_tiny hl hf
    have hv := srcV_F hl ht
    have q29 := fun K L Q => k29 hl ht hlen (root := root) (K := K) (L := L) (Q := Q)
    have q30 := fun K L Q => (KW_of (s30 hv (hx K L) root) : KW ft (.fn (.func 30) [] []) [srcF l, int root] (hx K L) Q ↔ _)
    simp only [int] at q29 q30
    have hN := its_len ht hlen root
    have hall := its_all hl root
    have ip : ∀ a b c, isnilA 1 (.ptr a b c) = some false := fun _ _ _ => rfl
    cases e2 : ((allM l root).2 == 0) with
    | false =>
      simp only [↓vp, vq0, vq1, vq2, vq3, vr0, vr1, vr2, vr3, vr4, vr5, vr6, vr7, vr8, vr9, vr10, vr11, vr12, vr13, vr14, vr15, vr16, vr17, vr18, vr19, vr20, vr21, vr22, vr23, vr24, vr25, vr26, vr27, vr28, vr29, vr30, vr31, vr32, vr33, vr34, opS, fpS, okP, pack, nAl, allocA, shId, leaves, fillA, fillR, splice, Nat.reduceLT, Nat.reduceEqDiff, Nat.reduceLeDiff, Nat.reduceAdd, Nat.reduceSub, Nat.reduceMul, Int.reduceBEq, Int.reduceBNe, Int.reduceLT, Int.reduceLE, Int.reduceEq, reduceIte, reduceCtorEq, da, int, boolA, RetP_go, resT, resC, resN, retV1, retV2, retV3, retV0, frzFZ, takeM, Option.some.injEq, k27n, hl, e1, e0, gt_iff_lt, q29, e2, k17, q30, hx_hx, ip, ha' _ _ _]
    | true =>
      have h0 : (allM l root).2 = 0 := by simpa using e2
      have hT := all_Tc h0
      simp only [↓vp, vq0, vq1, vq2, vq3, vr0, vr1, vr2, vr3, vr4, vr5, vr6, vr7, vr8, vr9, vr10, vr11, vr12, vr13, vr14, vr15, vr16, vr17, vr18, vr19, vr20, vr21, vr22, vr23, vr24, vr25, vr26, vr27, vr28, vr29, vr30, vr31, vr32, vr33, vr34, opS, fpS, okP, pack, nAl, allocA, shId, leaves, fillA, fillR, splice, Nat.reduceLT, Nat.reduceEqDiff, Nat.reduceLeDiff, Nat.reduceAdd, Nat.reduceSub, Nat.reduceMul, Int.reduceBEq, Int.reduceBNe, Int.reduceLT, Int.reduceLE, Int.reduceEq, reduceIte, reduceCtorEq, da, int, boolA, k27n, hl, e1, e0, gt_iff_lt, q29, e2, k17, q30, hx_hx, ip]
      have hc0 : Cur (hx Heap.empty [.box false [srcF l, int root, .sc (.slice none 0 0)]]) 0 (srcF l) root (.sc (.slice none 0 0)) [] := ⟨by rw [hxe_get]; rfl, .inl ⟨rfl, rfl⟩⟩
      refine KW_ex (s37 hv ⟨by simp, by simp⟩ trivial hc0 hk (nb_B _)) fun H1 hP1 => ?_
      obtain ⟨lv1, c1, k1⟩ := hP1
      obtain ⟨c, hcut, hR⟩ := seek_cut h0 key
      have hmv := fun i ws (hg : Good (nodeM l) root (allM l root).1.items ws i) => mv_good hg (-1) (.inr rfl)
      have hRl := edgeC_last hT
      have hcl := hcut.le
      generalize hits : (allM l root).1.items = its at *
      have l1 := Heap.get_lt c1.1
      by_cases hlt : c < its.length
      · rw [if_pos hlt] at hR
        have hgood : Good (nodeM l) root its (seekC (nodeM l) root key).2 c := by
          rcases hR.2 with ⟨_, h⟩ | ⟨j, hj, h⟩
          · omega
          · have : j = c := by omega
            subst this; exact h
        have hlo : ¬ cmpB its[c].key key < 0 := hcut.hi _ (by rw [List.drop_eq_getElem_cons hlt]; exact List.mem_cons_self)
        have ho := hall _ (List.getElem_mem hlt)
        have ht1 : told its (c : Int) = (its[c], true) := by unfold told; rw [if_pos (by omega), Int.toNat_natCast, List.getElem?_eq_getElem hlt]
        obtain ⟨r1, r2, r3⟩ := Rel_ok hv.ok hv.tiny hR.2
        obtain ⟨hR1, hR2⟩ := hR
        rw [ht1] at hR1
        rw [hR1, ← hx_nil H1]
        unfold ansV itemR
        simp only [↓vp, vq0, vq1, vq2, vq3, vr0, vr1, vr2, vr3, vr4, vr5, vr6, vr7, vr8, vr9, vr10, vr11, vr12, vr13, vr14, vr15, vr16, vr17, vr18, vr19, vr20, vr21, vr22, vr23, vr24, vr25, vr26, vr27, vr28, vr29, vr30, vr31, vr32, vr33, vr34, opS, fpS, okP, pack, nAl, allocA, shId, leaves, fillA, fillR, splice, Nat.reduceLT, Nat.reduceEqDiff, Nat.reduceLeDiff, Nat.reduceAdd, Nat.reduceSub, Nat.reduceMul, Int.reduceBEq, Int.reduceBNe, Int.reduceLT, Int.reduceLE, Int.reduceEq, reduceIte, reduceCtorEq, da, int, boolA, ho.1, hk, k40, hlo, ir_one, ir_len]
        refine KW_ex (s36 hv ⟨by simp, by simp⟩ trivial (c1.hx _) r1 r2 r3) fun H2 hP2 => ?_
        obtain ⟨lv2, c2, k2⟩ := hP2
        have hb : ∀ j b, [Blk.box false (itemC its[c]), .box false itemN][j]? = some b → H2.get (H1.next + j) = some b ∧ ¬ OwnC H2 0 (H1.next + j) := fun j b hj =>
          keep_box k2 (by rw [hx_get]; exact hj) (fun h => by have := own_lt c1 (own_hx l1 h); omega) (by simp)
        have b1 := (hb 0 _ rfl).1
        have b2 := (hb 1 _ rfl).1
        rw [Nat.add_zero] at b1
        obtain ⟨u1, u2, u3⟩ := tail_box b1
        obtain ⟨v1, v2, v3⟩ := tail_box b2
        unfold itemN at v1
        have hS : Right (nodeM l) root its ((c : Int) - 1) (stepN (nodeM l) root false (seekC (nodeM l) root key).2) := by
          have := hmv c _ hgood
          unfold stepN
          rw [if_neg (PosI_ne hgood.1)]
          rw [if_neg (by omega)] at this
          exact this
        generalize stepN (nodeM l) root false (seekC (nodeM l) root key).2 = r at hS
        rw [← hx_nil H2]
        unfold ansV
        rcases told_cases hS with ⟨t1, t2⟩ | ⟨m, x, t1, t2, t3⟩
        · rw [t2]
          unfold itemR itemN
          simp only [↓vp, vq0, vq1, vq2, vq3, vr0, vr1, vr2, vr3, vr4, vr5, vr6, vr7, vr8, vr9, vr10, vr11, vr12, vr13, vr14, vr15, vr16, vr17, vr18, vr19, vr20, vr21, vr22, vr23, vr24, vr25, vr26, vr27, vr28, vr29, vr30, vr31, vr32, vr33, vr34, opS, fpS, okP, pack, nAl, allocA, shId, leaves, fillA, fillR, splice, Nat.reduceLT, Nat.reduceEqDiff, Nat.reduceLeDiff, Nat.reduceAdd, Nat.reduceSub, Nat.reduceMul, Int.reduceBEq, Int.reduceBNe, Int.reduceLT, Int.reduceLE, Int.reduceEq, reduceIte, reduceCtorEq, da, int, boolA, RetP_go, resT, resC, resN, retV1, retV2, retV3, retV0, frzFZ, takeM, Option.some.injEq, ir_one, ir_len, u1, u2, u3, v1, v2, v3, ha' _ _ _]
        · have hm : m < c := by omega
          obtain ⟨hml, hmx⟩ := List.getElem?_eq_some_iff.1 t2
          have hlo2 : cmpB x.key key < 0 := hcut.lo _ (by rw [← hmx]; exact List.mem_take_iff_getElem.2 ⟨m, by omega, rfl⟩)
          have ho2 := hall _ (List.getElem_mem hml)
          rw [hmx] at ho2
          rw [t3]
          unfold itemR
          simp only [↓vp, vq0, vq1, vq2, vq3, vr0, vr1, vr2, vr3, vr4, vr5, vr6, vr7, vr8, vr9, vr10, vr11, vr12, vr13, vr14, vr15, vr16, vr17, vr18, vr19, vr20, vr21, vr22, vr23, vr24, vr25, vr26, vr27, vr28, vr29, vr30, vr31, vr32, vr33, vr34, opS, fpS, okP, pack, nAl, allocA, shId, leaves, fillA, fillR, splice, Nat.reduceLT, Nat.reduceEqDiff, Nat.reduceLeDiff, Nat.reduceAdd, Nat.reduceSub, Nat.reduceMul, Int.reduceBEq, Int.reduceBNe, Int.reduceLT, Int.reduceLE, Int.reduceEq, reduceIte, reduceCtorEq, da, int, boolA, RetP_go, resT, resC, resN, retV1, retV2, retV3, retV0, frzFZ, takeM, Option.some.injEq, ir_one, ir_len, u1, u2, u3, v1, v2, v3, ho2.1, hk, k40, hlo2, ha' _ _ _]
      · rw [if_neg hlt] at hR
        obtain ⟨hR1, hR2⟩ := hR
        have e1 : (told its (-1)) = (nilI, false) := rfl
        rw [e1] at hR1
        rw [hR1, ← hx_nil H1]
        unfold ansV itemR itemN
        simp only [↓vp, vq0, vq1, vq2, vq3, vr0, vr1, vr2, vr3, vr4, vr5, vr6, vr7, vr8, vr9, vr10, vr11, vr12, vr13, vr14, vr15, vr16, vr17, vr18, vr19, vr20, vr21, vr22, vr23, vr24, vr25, vr26, vr27, vr28, vr29, vr30, vr31, vr32, vr33, vr34, opS, fpS, okP, pack, nAl, allocA, shId, leaves, fillA, fillR, splice, Nat.reduceLT, Nat.reduceEqDiff, Nat.reduceLeDiff, Nat.reduceAdd, Nat.reduceSub, Nat.reduceMul, Int.reduceBEq, Int.reduceBNe, Int.reduceLT, Int.reduceLE, Int.reduceEq, reduceIte, reduceCtorEq, da, int, boolA, ir_one, ir_len]
        refine KW_ex (s35 hv ⟨by simp, by simp⟩ trivial (c1.hx _)) fun H2 hP2 => ?_
        obtain ⟨lv2, c2, k2⟩ := hP2
        have hb : ∀ j b, [Blk.box false itemN, .box false itemN][j]? = some b → H2.get (H1.next + j) = some b ∧ ¬ OwnC H2 0 (H1.next + j) := fun j b hj =>
          keep_box k2 (by rw [hx_get]; exact hj) (fun h => by have := own_lt c1 (own_hx l1 h); omega) (by simp)
        have b1 := (hb 0 _ rfl).1
        have b2 := (hb 1 _ rfl).1
        rw [Nat.add_zero] at b1
        obtain ⟨u1, u2, u3⟩ := tail_box b1
        obtain ⟨v1, v2, v3⟩ := tail_box b2
        unfold itemN at v1
        generalize edgeC (nodeM l) root true = r at hRl
        rw [← hx_nil H2]
        unfold ansV
        rcases told_cases hRl with ⟨t1, t2⟩ | ⟨m, x, t1, t2, t3⟩
        · rw [t2]
          unfold itemR itemN
          simp only [↓vp, vq0, vq1, vq2, vq3, vr0, vr1, vr2, vr3, vr4, vr5, vr6, vr7, vr8, vr9, vr10, vr11, vr12, vr13, vr14, vr15, vr16, vr17, vr18, vr19, vr20, vr21, vr22, vr23, vr24, vr25, vr26, vr27, vr28, vr29, vr30, vr31, vr32, vr33, vr34, opS, fpS, okP, pack, nAl, allocA, shId, leaves, fillA, fillR, splice, Nat.reduceLT, Nat.reduceEqDiff, Nat.reduceLeDiff, Nat.reduceAdd, Nat.reduceSub, Nat.reduceMul, Int.reduceBEq, Int.reduceBNe, Int.reduceLT, Int.reduceLE, Int.reduceEq, reduceIte, reduceCtorEq, da, int, boolA, RetP_go, resT, resC, resN, retV1, retV2, retV3, retV0, frzFZ, takeM, Option.some.injEq, ir_one, ir_len, u1, u2, u3, v1, v2, v3, ha' _ _ _]
        · have hm : m < c := by omega
          obtain ⟨hml, hmx⟩ := List.getElem?_eq_some_iff.1 t2
          have hlo2 : cmpB x.key key < 0 := hcut.lo _ (by rw [← hmx]; exact List.mem_take_iff_getElem.2 ⟨m, by omega, rfl⟩)
          have ho2 := hall _ (List.getElem_mem hml)
          rw [hmx] at ho2
          rw [t3]
          unfold itemR
          simp only [↓vp, vq0, vq1, vq2, vq3, vr0, vr1, vr2, vr3, vr4, vr5, vr6, vr7, vr8, vr9, vr10, vr11, vr12, vr13, vr14, vr15, vr16, vr17, vr18, vr19, vr20, vr21, vr22, vr23, vr24, vr25, vr26, vr27, vr28, vr29, vr30, vr31, vr32, vr33, vr34, opS, fpS, okP, pack, nAl, allocA, shId, leaves, fillA, fillR, splice, Nat.reduceLT, Nat.reduceEqDiff, Nat.reduceLeDiff, Nat.reduceAdd, Nat.reduceSub, Nat.reduceMul, Int.reduceBEq, Int.reduceBNe, Int.reduceLT, Int.reduceLE, Int.reduceEq, reduceIte, reduceCtorEq, da, int, boolA, RetP_go, resT, resC, resN, retV1, retV2, retV3, retV0, frzFZ, takeM, Option.some.injEq, ir_one, ir_len, u1, u2, u3, v1, v2, v3, ho2.1, hk, k40, hlo2, ha' _ _ _]
end Go.VI
