import Derived.Test.YtoinghjainpkfaaS7
/- What the claim hangs on, part 8: OE. -/
set_option linter.unusedVariables false
set_option linter.unusedSimpArgs false
set_option maxRecDepth 100000
namespace Go.VI
attribute [local congr] AW_congr OW_congr DW_congr NW_congr VW_congr GW_congr PW_congr KW_congr ite_congr' GV_congr CV_congr KF_congr
def tNodeEvenA : ACode := match c5 with
  | .seq a _ => a
  | _ => .skip
def tNodeEvenB : ACode := match c5 with
  | .seq _ (.seq b _) => b
  | _ => .skip
def tNodeEvenT : ACode := match c5 with
  | .seq _ (.seq _ c) => c
  | _ => .skip
theorem tNodeEven_split : c5 = .seq tNodeEvenA (.seq tNodeEvenB tNodeEvenT) := rfl
theorem parts_some (g : Int) : ∀ (d : Nat) (key : Bytes) (n : NodeM), 1 ≤ (roomsM g n).length → ∀ p ∈ partsM g d key n, 1 ≤ countM p.2
  | 0, key, n, h, p, hp => by
    simp only [partsM, List.mem_singleton] at hp
    subst hp
    rw [← rooms_count g]; exact h
  | d + 1, key, n, h, p, hp => by
    unfold partsM at hp
    split at hp
    · simp only [List.mem_singleton] at hp
      subst hp
      rw [← rooms_count g]; exact h
    · rename_i hc
      have h2 : 2 ≤ (roomsM g n).length := by
        simp only [Bool.or_eq_true, decide_eq_true_eq, not_or] at hc
        omega
      obtain ⟨b1, b2⟩ := atM_bound g n h2
      rcases List.mem_append.1 hp with hp | hp
      · exact parts_some g d _ _ (by rw [rooms_cut_l, List.length_take]; omega) p hp
      · exact parts_some g d _ _ (by rw [rooms_cut_r]; omega) p hp
theorem parts_many (g : Int) (d : Nat) (key : Bytes) (n : NodeM) (h : 1 < (partsM g d key n).length) : 2 ≤ (roomsM g n).length := by
  cases d with
  | zero => simp [partsM] at h
  | succ d =>
    unfold partsM at h
    split at h
    · simp at h
    · rename_i hc
      simp only [Bool.or_eq_true, decide_eq_true_eq, not_or] at hc
      omega
theorem parts_pair (g : Int) (d : Nat) (key : Bytes) (n : NodeM) (h : (partsM g d key n).length = 2) : ∃ p, partsM g d key n = [(key, (cutM n (atM g n)).1), p] := by
  cases d with
  | zero => simp [partsM] at h
  | succ d =>
    unfold partsM at h ⊢
    split at h
    · simp at h
    · rename_i hc
      rw [if_neg hc]
      have e1 := List.length_pos_iff.2 (parts_ne g d key (cutM n (atM g n)).1)
      have e2 := List.length_pos_iff.2 (parts_ne g d (cutM n (atM g n)).2.2 (cutM n (atM g n)).2.1)
      rw [List.length_append] at h
      obtain ⟨n0, r, e3, _, _⟩ := parts_head g d key (cutM n (atM g n)).1
      have l1 : (partsM g d key (cutM n (atM g n)).1).length = 1 := by omega
      have l2 : (partsM g d (cutM n (atM g n)).2.2 (cutM n (atM g n)).2.1).length = 1 := by omega
      have one : ∀ (k : Bytes) (m : NodeM), (partsM g d k m).length = 1 → partsM g d k m = [(k, m)] := fun k m hm => by
        cases d with
        | zero => rfl
        | succ d =>
          unfold partsM at hm ⊢
          split
          · rfl
          · rename_i hc2
            rw [if_neg hc2] at hm
            have e1 := List.length_pos_iff.2 (parts_ne g d k (cutM m (atM g m)).1)
            have e2 := List.length_pos_iff.2 (parts_ne g d (cutM m (atM g m)).2.2 (cutM m (atM g m)).2.1)
            rw [List.length_append] at hm
            omega
      exact ⟨_, by rw [one _ _ l1, one _ _ l2]; rfl⟩
def cntsM (l : List (Bytes × NodeM)) : Nat := (l.map fun p => countM p.2).sum
theorem cnts_take (l : List (Bytes × NodeM)) (i : Nat) (h : i < l.length) : cntsM (l.take (i + 1)) = cntsM (l.take i) + countM l[i].2 := by
  unfold cntsM
  rw [List.take_succ_eq_append_getElem h, List.map_append, List.sum_append]
  simp only [List.map_cons, List.map_nil, List.sum_cons, List.sum_nil, Nat.add_zero]
theorem cnts_le (l : List (Bytes × NodeM)) (i : Nat) : cntsM (l.take i) ≤ cntsM l := by
  have : cntsM l = cntsM (l.take i) + cntsM (l.drop i) := by
    unfold cntsM
    rw [← List.sum_append, ← List.map_append, List.take_append_drop]
  omega
theorem hx_get_z (b : Blk) (L : List Blk) : (hx Heap.empty (b :: L)).get 0 = some b := rfl
theorem loop_NodeEven (g : Int) (n : NodeM) (ps : List (Bytes × NodeM)) (hl : ps.length ≤ 1000) (hps : ∀ p ∈ ps, Good p.2 ∧ p.2.leaf = n.leaf ∧ (1 < ps.length → 1 ≤ countM p.2)) (hc : cntsM ps ≤ 60) {Q : AExit → Env → Heap → Prop}
   (hex : ∀ f' K', K'.get 0 = some (.box false (nodeC n)) → f' 0 = int g → f' 3 = .ptr 0 0 0 → f' 5 = encP ps → f' 6 = int (cntsM ps) → Q (.exit 0) (mkE 154 f') (hx K' [])) :
   ∀ (d i : Nat) (K : Heap) (f : Nat → AV), i + d = ps.length → K.get 0 = some (.box false (nodeC n)) → f 0 = int g → f 3 = .ptr 0 0 0 → f 5 = encP ps → f 6 = int (cntsM (ps.take i)) → f 64 = encP ps → f 65 = int ps.length → f 66 = int i →
    AW ftX (.loop c5L0) (mkE 154 f) (hx K []) Q := by
  intro d
  induction d with
  | zero =>
    intro i K f hd h0 q0 q3 q5 q6 q64 q65 q66
    have g1 : ((i : Int) < (ps.length : Int)) = False := eq_false (by omega)
    rw [AW_loop]
    unfold c5L0
    rw [List.take_of_length_le (by omega)] at q6
    simp only [↓vp, vq0, vq1, vq2, vq3, vr0, vr1, vr2, vr3, vr4, vr5, vr6, vr7, vr8, vr9, vr10, vr11, vr12, vr13, vr14, vr15, vr16, vr17, vr18, vr19, vr20, vr21, vr22, vr23, vr24, vr25, vr26, vr27, vr28, vr29, vr30, vr31, vr32, vr33, vr34, opS, fpS, okP, pack, nAl, allocA, shId, leaves, fillA, fillR, splice, Nat.reduceLT, Nat.reduceEqDiff, Nat.reduceLeDiff, Nat.reduceAdd, Nat.reduceSub, Nat.reduceMul, Int.reduceBEq, Int.reduceBNe, Int.reduceLT, Int.reduceLE, Int.reduceEq, reduceIte, reduceCtorEq, da, int, boolA, q65, q66, g1]
    refine hex _ K h0 ?_ ?_ ?_ ?_ <;> simp only [↓vp, vq0, vq1, vq2, vq3, vr0, vr1, vr2, vr3, vr4, vr5, vr6, vr7, vr8, vr9, vr10, vr11, vr12, vr13, vr14, vr15, vr16, vr17, vr18, vr19, vr20, vr21, vr22, vr23, vr24, vr25, vr26, vr27, vr28, vr29, vr30, vr31, vr32, vr33, vr34, opS, fpS, okP, pack, nAl, allocA, shId, leaves, fillA, fillR, splice, Nat.reduceLT, Nat.reduceEqDiff, Nat.reduceLeDiff, Nat.reduceAdd, Nat.reduceSub, Nat.reduceMul, Int.reduceBEq, Int.reduceBNe, Int.reduceLT, Int.reduceLE, Int.reduceEq, reduceIte, reduceCtorEq, da, int, boolA, q0, q3, q5, q6]
  | succ d ih =>
    intro i K f hd h0 q0 q3 q5 q6 q64 q65 q66
    have g1 : ((i : Int) < (ps.length : Int)) = True := eq_true (by omega)
    have w1 := wrap_succ (show i < 9223372036854775807 by omega)
    have gi : i < ps.length := by omega
    have e6 := cnts_take ps i gi
    have l6 := cnts_le ps (i + 1)
    generalize hp : ps[i] = p at e6
    obtain ⟨pg, plf, pc⟩ := hps p (hp ▸ List.getElem_mem gi)
    have pi := pg.i
    have pkk := pg.k
    have hcnt := pg.count
    have at1 := fun H => atP (H := H) gi
    have c1 := fun H off n => cP (H := H) (off := off) (n := n) gi
    rw [hp] at c1
    have wc : IntKind.i64.wrap ((p.2.items.length : Int) + (p.2.kids.length : Int)) = ((countM p.2 : Nat) : Int) := by rw [wrap_i64 (by omega)]; omega
    have w6 : IntKind.i64.wrap ((cntsM (ps.take i) : Int) + (countM p.2 : Int)) = ((cntsM (ps.take (i + 1)) : Nat) : Int) := by rw [wrap_i64 (by omega)]; omega
    have h0' := fun L => get_old h0 L
    simp only [nodeC, boolA] at h0'
    have lP : ∀ H, lenV H 0 (encP ps) = some (.sc (.int .i64 (ps.length : Int)), H) := fun H => lenP ps
    have bl : (p.2.leaf == n.leaf) = true := by rw [plf]; simp
    rw [AW_loop]
    unfold c5L0
    by_cases c1l : (1 : Int) < (ps.length : Int)
    · have z0 : ((countM p.2 : Int) == 0) = false := by
        have := pc (by omega)
        have h2 : (countM p.2 : Int) ≠ 0 := by omega
        simpa using h2
      simp only [↓vp, vq0, vq1, vq2, vq3, vr0, vr1, vr2, vr3, vr4, vr5, vr6, vr7, vr8, vr9, vr10, vr11, vr12, vr13, vr14, vr15, vr16, vr17, vr18, vr19, vr20, vr21, vr22, vr23, vr24, vr25, vr26, vr27, vr28, vr29, vr30, vr31, vr32, vr33, vr34, opS, fpS, okP, pack, nAl, allocA, shId, leaves, fillA, fillR, splice, Nat.reduceLT, Nat.reduceEqDiff, Nat.reduceLeDiff, Nat.reduceAdd, Nat.reduceSub, Nat.reduceMul, Int.reduceBEq, Int.reduceBNe, Int.reduceLT, Int.reduceLE, Int.reduceEq, reduceIte, reduceCtorEq, da, int, boolA, q0, q3, q5, q6, q64, q65, q66, g1, w1, at1, c1, partC, nodeC, wc, w6, h0', c1l, z0, bl, lP]
      rw [← hx_nil (hx _ _)]
      refine ih (i + 1) _ _ (by omega) (get_old h0 _) ?_ ?_ ?_ ?_ ?_ ?_ ?_ <;> simp only [↓vp, vq0, vq1, vq2, vq3, vr0, vr1, vr2, vr3, vr4, vr5, vr6, vr7, vr8, vr9, vr10, vr11, vr12, vr13, vr14, vr15, vr16, vr17, vr18, vr19, vr20, vr21, vr22, vr23, vr24, vr25, vr26, vr27, vr28, vr29, vr30, vr31, vr32, vr33, vr34, opS, fpS, okP, pack, nAl, allocA, shId, leaves, fillA, fillR, splice, Nat.reduceLT, Nat.reduceEqDiff, Nat.reduceLeDiff, Nat.reduceAdd, Nat.reduceSub, Nat.reduceMul, Int.reduceBEq, Int.reduceBNe, Int.reduceLT, Int.reduceLE, Int.reduceEq, reduceIte, reduceCtorEq, da, int, boolA, q0, q3, q5, q64, q65]
    · simp only [↓vp, vq0, vq1, vq2, vq3, vr0, vr1, vr2, vr3, vr4, vr5, vr6, vr7, vr8, vr9, vr10, vr11, vr12, vr13, vr14, vr15, vr16, vr17, vr18, vr19, vr20, vr21, vr22, vr23, vr24, vr25, vr26, vr27, vr28, vr29, vr30, vr31, vr32, vr33, vr34, opS, fpS, okP, pack, nAl, allocA, shId, leaves, fillA, fillR, splice, Nat.reduceLT, Nat.reduceEqDiff, Nat.reduceLeDiff, Nat.reduceAdd, Nat.reduceSub, Nat.reduceMul, Int.reduceBEq, Int.reduceBNe, Int.reduceLT, Int.reduceLE, Int.reduceEq, reduceIte, reduceCtorEq, da, int, boolA, q0, q3, q5, q6, q64, q65, q66, g1, w1, at1, c1, partC, nodeC, wc, w6, h0', c1l, bl, lP]
      rw [← hx_nil (hx _ _)]
      refine ih (i + 1) _ _ (by omega) (get_old h0 _) ?_ ?_ ?_ ?_ ?_ ?_ ?_ <;> simp only [↓vp, vq0, vq1, vq2, vq3, vr0, vr1, vr2, vr3, vr4, vr5, vr6, vr7, vr8, vr9, vr10, vr11, vr12, vr13, vr14, vr15, vr16, vr17, vr18, vr19, vr20, vr21, vr22, vr23, vr24, vr25, vr26, vr27, vr28, vr29, vr30, vr31, vr32, vr33, vr34, opS, fpS, okP, pack, nAl, allocA, shId, leaves, fillA, fillR, splice, Nat.reduceLT, Nat.reduceEqDiff, Nat.reduceLeDiff, Nat.reduceAdd, Nat.reduceSub, Nat.reduceMul, Int.reduceBEq, Int.reduceBNe, Int.reduceLT, Int.reduceLE, Int.reduceEq, reduceIte, reduceCtorEq, da, int, boolA, q0, q3, q5, q64, q65]
theorem rest_NodeEven (g : Int) (n : NodeM) (gd : Good n) (g1 : 1 ≤ g) (g3 : g ≤ 3) (g0 : ∀ x, n.kids[0]? = some x → x.key = []) (f : Nat → AV) (q0 : f 0 = int g) (q3 : f 3 = .ptr 0 0 0) :
    AW ftX tNodeEvenT (mkE 154 f) (hx Heap.empty [.box false [.sc (.bool n.leaf), encI n.items, encK n.kids]]) (RetP [.tmp 4] (boolA true)) := by
  have hn := gd.ok
  have hi := gd.i
  have hk := gd.k
  simp only [tNodeEvenT, c5]
  have kOf := fun K L Q => @KW_of ftX _ _ _ Q _ _ (callL_sub ft_sub (s20 n (by omega) (by omega) (hx K L)))
  have kP := fun K L Q => @KW_of ftX _ _ _ Q _ _ (callL_sub ft_sub (s21 g n hn (by omega) (by omega) (hx K L)))
  have hall := parts_good g (roomsM g n).length [] n gd okB_nil (by simp)
  have hleaf := parts_leaf g (roomsM g n).length [] n
  have hpl := parts_len g (roomsM g n).length [] n
  have hrl := rooms_len g (n := n) (by omega) (by omega)
  have hcnt := parts_count g (roomsM g n).length [] n
  have hsome := parts_some g (roomsM g n).length [] n
  have hmany := parts_many g (roomsM g n).length [] n
  have hpair := parts_pair g (roomsM g n).length [] n
  have hc60 : countM n ≤ 60 := by unfold countM; split <;> omega
  simp only [nodeC, int, boolA] at kOf kP
  generalize partsM g (roomsM g n).length [] n = ps at *
  have lP : ∀ H, lenV H 0 (encP ps) = some (.sc (.int .i64 (ps.length : Int)), H) := fun H => lenP ps
  simp only [↓vp, vq0, vq1, vq2, vq3, vr0, vr1, vr2, vr3, vr4, vr5, vr6, vr7, vr8, vr9, vr10, vr11, vr12, vr13, vr14, vr15, vr16, vr17, vr18, vr19, vr20, vr21, vr22, vr23, vr24, vr25, vr26, vr27, vr28, vr29, vr30, vr31, vr32, vr33, vr34, opS, fpS, okP, pack, nAl, allocA, shId, leaves, fillA, fillR, splice, Nat.reduceLT, Nat.reduceEqDiff, Nat.reduceLeDiff, Nat.reduceAdd, Nat.reduceSub, Nat.reduceMul, Int.reduceBEq, Int.reduceBNe, Int.reduceLT, Int.reduceLE, Int.reduceEq, reduceIte, reduceCtorEq, da, int, boolA, RetP_go, resT, resC, resN, retV1, retV2, retV3, retV0, frzFZ, takeM, Option.some.injEq, q0, q3, kOf, kP, lP]
  rw [← hx_nil (hx _ _)]
  refine loop_NodeEven g n ps (by omega) (fun p hp => ⟨(hall p hp).1, hleaf p hp, fun h => hsome (by have := hmany h; omega) p hp⟩) (by unfold cntsM; omega) (fun f' K' k0 p0 p3 p5 p6 => ?_) ps.length 0 _ _ (by omega) (hx_get_z _ _) ?_ ?_ ?_ ?_ ?_ ?_ ?_
  · unfold c5R1
    have kAl := fun K L Q => @KW_of ftX _ _ _ Q _ _ (s19 (hx K L))
    have kMany := fun K L Q => @KW_of ftX _ _ _ Q _ _ (callL_sub ft_sub (s34 n (hx K L)))
    have kR := fun K L Q => @KW_of ftX _ _ _ Q _ _ (callL_sub ft_sub (s33 g n hn (by omega) (by omega) (countM n) (by rw [rooms_count]; exact Nat.le_refl _) (hx K L)))
    have etk : (roomsM g n).take (countM n) = roomsM g n := by rw [← rooms_count g, List.take_length]
    have hm : manyN n = (countM n : Int) := by rw [many_rooms g n, rooms_count g]
    have k0' := fun L => get_old k0 L
    rw [hm] at kMany
    rw [etk, show sumZ (roomsM g n) = roomM g n from rfl] at kR
    have hcs : ((cntsM ps : Int) == (countM n : Int)) = true := by
      have : cntsM ps = countM n := hcnt
      rw [this]; simp
    simp only [nodeC, int, boolA] at kAl kMany kR k0'
    by_cases c2 : ps.length = 2
    · obtain ⟨p1, hp1⟩ := hpair c2
      have h2r := hmany (by omega)
      obtain ⟨b1, b2⟩ := atM_bound g n h2r
      have sp := atG_spec (roomM g n) ((roomsM g n).take ((roomsM g n).length - 1)) 0 0
      have eat : atG (roomM g n) 0 0 ((roomsM g n).take ((roomsM g n).length - 1)) = atM g n := rfl
      rw [eat] at sp
      obtain ⟨sp1, sp2⟩ := sp
      have tk : ∀ j, j ≤ atM g n → ((roomsM g n).take ((roomsM g n).length - 1)).take j = (roomsM g n).take j := fun j hj => by rw [List.take_take, Nat.min_eq_left (by omega)]
      simp only [Nat.sub_zero, Int.zero_add, Nat.zero_add, List.length_take] at sp1 sp2
      rw [tk _ (Nat.le_refl _)] at sp1
      rw [tk _ (by omega)] at sp2
      have ga := (gd.cut (atM g n)).1
      have eca : countM (cutM n (atM g n)).1 = atM g n := by rw [← rooms_count g, rooms_cut_l, List.length_take]; omega
      have gac := ga.count
      have gai := ga.i
      have gak := ga.k
      rw [eca] at gac
      have hsm := rooms_small g hn
      have sm1 := sumZ_small (hsm.take (atM g n))
      have sm2 := sumZ_small (hsm.take (atM g n - 1))
      rw [List.length_take] at sm1 sm2
      have hlen : (roomsM g n).length = countM n := rooms_count g n
      have kRk := fun K L Q => @KW_of ftX _ _ _ Q _ _ (callL_sub ft_sub (s33 g n hn (by omega) (by omega) (atM g n) (by omega) (hx K L)))
      have kRk1 := fun K L Q => @KW_of ftX _ _ _ Q _ _ (callL_sub ft_sub (s33 g n hn (by omega) (by omega) (atM g n - 1) (by omega) (hx K L)))
      have pM : ∀ v : AV, v = .agg (nodeC n) → pureV ftX (.fn (.func 34) [] []) [v] = some (false, []) := fun v e => by subst e; rfl
      have pM := pM _ rfl
      generalize (cutM n (atM g n)).1 = a at *
      have at0 : ∀ H, iaddrA H none 4 (encP ps) 0 = some (.pim [partC ([], a), partC p1] 0 0) := fun H => by rw [hp1]; rfl
      have ct2 : ∀ H, cellsAt H (.pim [partC ([], a), partC p1] 0 2) 1 = some [encI a.items] := fun _ => rfl
      have ct3 : ∀ H, cellsAt H (.pim [partC ([], a), partC p1] 0 3) 1 = some [encK a.kids] := fun _ => rfl
      have wk : IntKind.i64.wrap ((a.items.length : Int) + (a.kids.length : Int)) = (atM g n : Int) := by rw [wrap_i64 (by omega)]; omega
      have z2 : ((ps.length : Int) == 2) = true := by rw [c2]; rfl
      have w1 : IntKind.i64.wrap ((countM n : Int) - 1) = (countM n : Int) - 1 := wrap_i64 (by omega)
      have w2 : IntKind.i64.wrap (2 * sumZ ((roomsM g n).take (atM g n))) = 2 * sumZ ((roomsM g n).take (atM g n)) := wrap_i64 (by omega)
      have w3 : IntKind.i64.wrap ((atM g n : Int) - 1) = ((atM g n - 1 : Nat) : Int) := by rw [wrap_i64 (by omega)]; omega
      have w4 : IntKind.i64.wrap (2 * sumZ ((roomsM g n).take (atM g n - 1))) = 2 * sumZ ((roomsM g n).take (atM g n - 1)) := wrap_i64 (by omega)
      have hK : 2 * sumZ ((roomsM g n).take (atM g n)) < roomM g n → ((atM g n : Int) < (countM n : Int) - 1) = False := fun h => eq_false (by omega)
      have hge : (1 : Int) < (atM g n : Int) → (roomM g n ≤ 2 * sumZ ((roomsM g n).take (atM g n - 1))) = False := fun h => eq_false (by
        have := sp2 (by omega)
        omega)
      simp only [nodeC, int, boolA] at kRk kRk1 pM
      by_cases hS : 2 * sumZ ((roomsM g n).take (atM g n)) < roomM g n
      · have hK := hK hS
        by_cases hk1 : (1 : Int) < (atM g n : Int)
        · have hge := hge hk1
          simp only [↓vp, vq0, vq1, vq2, vq3, vr0, vr1, vr2, vr3, vr4, vr5, vr6, vr7, vr8, vr9, vr10, vr11, vr12, vr13, vr14, vr15, vr16, vr17, vr18, vr19, vr20, vr21, vr22, vr23, vr24, vr25, vr26, vr27, vr28, vr29, vr30, vr31, vr32, vr33, vr34, opS, fpS, okP, pack, nAl, allocA, shId, leaves, fillA, fillR, splice, Nat.reduceLT, Nat.reduceEqDiff, Nat.reduceLeDiff, Nat.reduceAdd, Nat.reduceSub, Nat.reduceMul, Int.reduceBEq, Int.reduceBNe, Int.reduceLT, Int.reduceLE, Int.reduceEq, reduceIte, reduceCtorEq, da, int, boolA, RetP_go, resT, resC, resN, retV1, retV2, retV3, retV0, frzFZ, takeM, Option.some.injEq, p0, p3, p5, p6, k0', kAl, kMany, kR, kRk, kRk1, pM, z2, hcs, lP, at0, ct2, ct3, wk, w1, w2, w3, w4, hS, hK, hk1, hge]
        · simp only [↓vp, vq0, vq1, vq2, vq3, vr0, vr1, vr2, vr3, vr4, vr5, vr6, vr7, vr8, vr9, vr10, vr11, vr12, vr13, vr14, vr15, vr16, vr17, vr18, vr19, vr20, vr21, vr22, vr23, vr24, vr25, vr26, vr27, vr28, vr29, vr30, vr31, vr32, vr33, vr34, opS, fpS, okP, pack, nAl, allocA, shId, leaves, fillA, fillR, splice, Nat.reduceLT, Nat.reduceEqDiff, Nat.reduceLeDiff, Nat.reduceAdd, Nat.reduceSub, Nat.reduceMul, Int.reduceBEq, Int.reduceBNe, Int.reduceLT, Int.reduceLE, Int.reduceEq, reduceIte, reduceCtorEq, da, int, boolA, RetP_go, resT, resC, resN, retV1, retV2, retV3, retV0, frzFZ, takeM, Option.some.injEq, p0, p3, p5, p6, k0', kAl, kMany, kR, kRk, kRk1, pM, z2, hcs, lP, at0, ct2, ct3, wk, w1, w2, w3, w4, hS, hK, hk1]
      · by_cases hk1 : (1 : Int) < (atM g n : Int)
        · have hge := hge hk1
          simp only [↓vp, vq0, vq1, vq2, vq3, vr0, vr1, vr2, vr3, vr4, vr5, vr6, vr7, vr8, vr9, vr10, vr11, vr12, vr13, vr14, vr15, vr16, vr17, vr18, vr19, vr20, vr21, vr22, vr23, vr24, vr25, vr26, vr27, vr28, vr29, vr30, vr31, vr32, vr33, vr34, opS, fpS, okP, pack, nAl, allocA, shId, leaves, fillA, fillR, splice, Nat.reduceLT, Nat.reduceEqDiff, Nat.reduceLeDiff, Nat.reduceAdd, Nat.reduceSub, Nat.reduceMul, Int.reduceBEq, Int.reduceBNe, Int.reduceLT, Int.reduceLE, Int.reduceEq, reduceIte, reduceCtorEq, da, int, boolA, RetP_go, resT, resC, resN, retV1, retV2, retV3, retV0, frzFZ, takeM, Option.some.injEq, p0, p3, p5, p6, k0', kAl, kMany, kR, kRk, kRk1, pM, z2, hcs, lP, at0, ct2, ct3, wk, w1, w2, w3, w4, hS, hk1, hge]
        · simp only [↓vp, vq0, vq1, vq2, vq3, vr0, vr1, vr2, vr3, vr4, vr5, vr6, vr7, vr8, vr9, vr10, vr11, vr12, vr13, vr14, vr15, vr16, vr17, vr18, vr19, vr20, vr21, vr22, vr23, vr24, vr25, vr26, vr27, vr28, vr29, vr30, vr31, vr32, vr33, vr34, opS, fpS, okP, pack, nAl, allocA, shId, leaves, fillA, fillR, splice, Nat.reduceLT, Nat.reduceEqDiff, Nat.reduceLeDiff, Nat.reduceAdd, Nat.reduceSub, Nat.reduceMul, Int.reduceBEq, Int.reduceBNe, Int.reduceLT, Int.reduceLE, Int.reduceEq, reduceIte, reduceCtorEq, da, int, boolA, RetP_go, resT, resC, resN, retV1, retV2, retV3, retV0, frzFZ, takeM, Option.some.injEq, p0, p3, p5, p6, k0', kAl, kMany, kR, kRk, kRk1, pM, z2, hcs, lP, at0, ct2, ct3, wk, w1, w2, w3, w4, hS, hk1]
    · have z2 : ((ps.length : Int) == 2) = false := by
        have : (ps.length : Int) ≠ 2 := by omega
        simpa using this
      simp only [↓vp, vq0, vq1, vq2, vq3, vr0, vr1, vr2, vr3, vr4, vr5, vr6, vr7, vr8, vr9, vr10, vr11, vr12, vr13, vr14, vr15, vr16, vr17, vr18, vr19, vr20, vr21, vr22, vr23, vr24, vr25, vr26, vr27, vr28, vr29, vr30, vr31, vr32, vr33, vr34, opS, fpS, okP, pack, nAl, allocA, shId, leaves, fillA, fillR, splice, Nat.reduceLT, Nat.reduceEqDiff, Nat.reduceLeDiff, Nat.reduceAdd, Nat.reduceSub, Nat.reduceMul, Int.reduceBEq, Int.reduceBNe, Int.reduceLT, Int.reduceLE, Int.reduceEq, reduceIte, reduceCtorEq, da, int, boolA, RetP_go, resT, resC, resN, retV1, retV2, retV3, retV0, frzFZ, takeM, Option.some.injEq, p0, p3, p5, p6, k0', kAl, kMany, z2, hcs, lP]
  all_goals simp only [↓vp, vq0, vq1, vq2, vq3, vr0, vr1, vr2, vr3, vr4, vr5, vr6, vr7, vr8, vr9, vr10, vr11, vr12, vr13, vr14, vr15, vr16, vr17, vr18, vr19, vr20, vr21, vr22, vr23, vr24, vr25, vr26, vr27, vr28, vr29, vr30, vr31, vr32, vr33, vr34, opS, fpS, okP, pack, nAl, allocA, shId, leaves, fillA, fillR, splice, Nat.reduceLT, Nat.reduceEqDiff, Nat.reduceLeDiff, Nat.reduceAdd, Nat.reduceSub, Nat.reduceMul, Int.reduceBEq, Int.reduceBNe, Int.reduceLT, Int.reduceLE, Int.reduceEq, reduceIte, reduceCtorEq, da, int, boolA, q0, q3]
  all_goals rfl
theorem s5 (g : Int) (n : NodeM) (hn : okN n) (H : Heap) : callL ftX (.fn (.func 5) [] []) [int g, .agg (nodeC n)] H = some (boolA true, H) := by
  refine call_p (as' := [int g, .agg (nodeC n)]) rfl rfl (by simp) ?_
  have kAl := fun K L Q => @KW_of ftX _ _ _ Q _ _ (s19 (hx K L))
  have kFew := fun K L Q => @KW_of ftX _ _ _ Q _ _ (callL_sub ft_sub (s18 n (hx K L)))
  simp only [nodeC, boolA] at kFew kAl
  rw [tNodeEven_split]
  simp only [tNodeEvenA, tNodeEvenB, c5, r5]
  have hlc : n.leaf = n.leaf := rfl
  cases hf : few6 n with
  | false =>
    rw [hf] at kFew
    simp only [↓vp, vq0, vq1, vq2, vq3, vr0, vr1, vr2, vr3, vr4, vr5, vr6, vr7, vr8, vr9, vr10, vr11, vr12, vr13, vr14, vr15, vr16, vr17, vr18, vr19, vr20, vr21, vr22, vr23, vr24, vr25, vr26, vr27, vr28, vr29, vr30, vr31, vr32, vr33, vr34, opS, fpS, okP, pack, nAl, allocA, shId, leaves, fillA, fillR, splice, Nat.reduceLT, Nat.reduceEqDiff, Nat.reduceLeDiff, Nat.reduceAdd, Nat.reduceSub, Nat.reduceMul, Int.reduceBEq, Int.reduceBNe, Int.reduceLT, Int.reduceLE, Int.reduceEq, reduceIte, reduceCtorEq, da, int, boolA, RetP_go, resT, resC, resN, retV1, retV2, retV3, retV0, frzFZ, takeM, Option.some.injEq, nodeC, kFew, kAl]
  | true =>
  rw [hf] at kFew
  by_cases g1 : g < 1
  · simp only [↓vp, vq0, vq1, vq2, vq3, vr0, vr1, vr2, vr3, vr4, vr5, vr6, vr7, vr8, vr9, vr10, vr11, vr12, vr13, vr14, vr15, vr16, vr17, vr18, vr19, vr20, vr21, vr22, vr23, vr24, vr25, vr26, vr27, vr28, vr29, vr30, vr31, vr32, vr33, vr34, opS, fpS, okP, pack, nAl, allocA, shId, leaves, fillA, fillR, splice, Nat.reduceLT, Nat.reduceEqDiff, Nat.reduceLeDiff, Nat.reduceAdd, Nat.reduceSub, Nat.reduceMul, Int.reduceBEq, Int.reduceBNe, Int.reduceLT, Int.reduceLE, Int.reduceEq, reduceIte, reduceCtorEq, da, int, boolA, RetP_go, resT, resC, resN, retV1, retV2, retV3, retV0, frzFZ, takeM, Option.some.injEq, nodeC, kFew, kAl, g1]
  by_cases g3 : g > 3
  · simp only [↓vp, vq0, vq1, vq2, vq3, vr0, vr1, vr2, vr3, vr4, vr5, vr6, vr7, vr8, vr9, vr10, vr11, vr12, vr13, vr14, vr15, vr16, vr17, vr18, vr19, vr20, vr21, vr22, vr23, vr24, vr25, vr26, vr27, vr28, vr29, vr30, vr31, vr32, vr33, vr34, opS, fpS, okP, pack, nAl, allocA, shId, leaves, fillA, fillR, splice, Nat.reduceLT, Nat.reduceEqDiff, Nat.reduceLeDiff, Nat.reduceAdd, Nat.reduceSub, Nat.reduceMul, Int.reduceBEq, Int.reduceBNe, Int.reduceLT, Int.reduceLE, Int.reduceEq, reduceIte, reduceCtorEq, da, int, boolA, RetP_go, resT, resC, resN, retV1, retV2, retV3, retV0, frzFZ, takeM, Option.some.injEq, nodeC, kFew, kAl, g1, g3]
  have hgood : (n.leaf = true ∧ n.kids = []) ∨ (n.leaf = false ∧ n.items = [] ∧ ∀ x, n.kids[0]? = some x → x.key = []) ∨ (n.leaf = true ∧ n.kids ≠ []) ∨ (n.leaf = false ∧ n.items ≠ []) ∨ (n.leaf = false ∧ n.items = [] ∧ ∃ x r, n.kids = x :: r ∧ x.key ≠ []) := by
    cases hl : n.leaf with
    | true => cases hk : n.kids <;> simp
    | false =>
      cases hi : n.items with
      | cons x r => simp
      | nil =>
        cases hk : n.kids with
        | nil => simp
        | cons x r =>
          by_cases hx_ : x.key = [] <;> simp [hx_]
  have bad : ((n.leaf = true ∧ n.kids = []) ∨ (n.leaf = false ∧ n.items = [] ∧ ∀ x, n.kids[0]? = some x → x.key = [])) ∨ ((n.leaf = true ∧ n.kids ≠ []) ∨ (n.leaf = false ∧ n.items ≠ []) ∨ (n.leaf = false ∧ n.items = [] ∧ ∃ x r, n.kids = x :: r ∧ x.key ≠ [])) := by
    rcases hgood with h | h | h | h | h
    · exact .inl (.inl h)
    · exact .inl (.inr h)
    · exact .inr (.inl h)
    · exact .inr (.inr (.inl h))
    · exact .inr (.inr (.inr h))
  clear hgood
  rcases bad with good | ⟨hl, hk⟩ | ⟨hl, hi⟩ | ⟨hl, hi, x, r, hk, hx_⟩
  rotate_left
  · have k1 : (0 : Int) < (n.kids.length : Int) := by
      have := List.length_pos_iff.2 hk
      omega
    rw [hl] at kFew
    simp only [↓vp, vq0, vq1, vq2, vq3, vr0, vr1, vr2, vr3, vr4, vr5, vr6, vr7, vr8, vr9, vr10, vr11, vr12, vr13, vr14, vr15, vr16, vr17, vr18, vr19, vr20, vr21, vr22, vr23, vr24, vr25, vr26, vr27, vr28, vr29, vr30, vr31, vr32, vr33, vr34, opS, fpS, okP, pack, nAl, allocA, shId, leaves, fillA, fillR, splice, Nat.reduceLT, Nat.reduceEqDiff, Nat.reduceLeDiff, Nat.reduceAdd, Nat.reduceSub, Nat.reduceMul, Int.reduceBEq, Int.reduceBNe, Int.reduceLT, Int.reduceLE, Int.reduceEq, reduceIte, reduceCtorEq, da, int, boolA, RetP_go, resT, resC, resN, retV1, retV2, retV3, retV0, frzFZ, takeM, Option.some.injEq, nodeC, kFew, kAl, g1, g3, hl, k1]
  · have k1 : (0 : Int) < (n.items.length : Int) := by
      have := List.length_pos_iff.2 hi
      omega
    rw [hl] at kFew
    simp only [↓vp, vq0, vq1, vq2, vq3, vr0, vr1, vr2, vr3, vr4, vr5, vr6, vr7, vr8, vr9, vr10, vr11, vr12, vr13, vr14, vr15, vr16, vr17, vr18, vr19, vr20, vr21, vr22, vr23, vr24, vr25, vr26, vr27, vr28, vr29, vr30, vr31, vr32, vr33, vr34, opS, fpS, okP, pack, nAl, allocA, shId, leaves, fillA, fillR, splice, Nat.reduceLT, Nat.reduceEqDiff, Nat.reduceLeDiff, Nat.reduceAdd, Nat.reduceSub, Nat.reduceMul, Int.reduceBEq, Int.reduceBNe, Int.reduceLT, Int.reduceLE, Int.reduceEq, reduceIte, reduceCtorEq, da, int, boolA, RetP_go, resT, resC, resN, retV1, retV2, retV3, retV0, frzFZ, takeM, Option.some.injEq, nodeC, kFew, kAl, g1, g3, hl, k1]
  · have k1 : ((0 : Int) < ((r.length + 1 : Nat) : Int)) = True := eq_true (by omega)
    have k2 : (0 : Int) < (x.key.length : Int) := by
      have := List.length_pos_iff.2 hx_
      omega
    have k3 : ∀ H, iaddrA H none 2 (encK (x :: r)) 0 = some (.pim ((x :: r).map kidC) 0 0) := fun H => iaddr_map (l := x :: r) (g := kidC) (i := 0) (by simp) (fun _ => rfl)
    have k4 : ∀ H, cellsAt H (.pim (kidC x :: r.map kidC) 0 0) 1 = some [encB x.key] := fun _ => rfl
    have k0 : ((0 : Int) < (([] : List ItemM).length : Nat)) = False := eq_false (by simp)
    rw [hl, hi, hk] at kFew
    simp only [↓vp, vq0, vq1, vq2, vq3, vr0, vr1, vr2, vr3, vr4, vr5, vr6, vr7, vr8, vr9, vr10, vr11, vr12, vr13, vr14, vr15, vr16, vr17, vr18, vr19, vr20, vr21, vr22, vr23, vr24, vr25, vr26, vr27, vr28, vr29, vr30, vr31, vr32, vr33, vr34, opS, fpS, okP, pack, nAl, allocA, shId, leaves, fillA, fillR, splice, Nat.reduceLT, Nat.reduceEqDiff, Nat.reduceLeDiff, Nat.reduceAdd, Nat.reduceSub, Nat.reduceMul, Int.reduceBEq, Int.reduceBNe, Int.reduceLT, Int.reduceLE, Int.reduceEq, reduceIte, reduceCtorEq, da, int, boolA, RetP_go, resT, resC, resN, retV1, retV2, retV3, retV0, frzFZ, takeM, Option.some.injEq, nodeC, kFew, kAl, g1, g3, hl, hi, hk, k0, k1, k2, k3, k4, List.length_nil, Int.natCast_zero]
  have gd : Good n := good_of hn hf (fun h => by
      rcases good with ⟨_, e⟩ | ⟨e, _⟩
      · exact e
      · rw [h] at e; cases e) (fun h => by
      rcases good with ⟨e, _⟩ | ⟨_, e, _⟩
      · rw [h] at e; cases e
      · exact e)
  have g0 : ∀ x, n.kids[0]? = some x → x.key = [] := fun x hx_ => by
    rcases good with ⟨_, e⟩ | ⟨_, _, e⟩
    · rw [e] at hx_; cases hx_
    · exact e x hx_
  have hgi := gd.i
  have hgk := gd.k
  have fin : ∀ f, f 0 = int g → f 3 = .ptr 0 0 0 → AW ftX tNodeEvenT (mkE 154 f) (hx Heap.empty [.box false [.sc (.bool n.leaf), encI n.items, encK n.kids]]) (RetP [.tmp 4] (.sc (.bool true))) := fun f q0 q3 => rest_NodeEven g n gd (by omega) (by omega) g0 f q0 q3
  rcases good with ⟨hl, hk⟩ | ⟨hl, hi, hk⟩
  · have k0 : ((0 : Int) < (([] : List KidM).length : Nat)) = False := eq_false (by simp)
    rw [hl, hk] at fin
    rw [hl, hk] at kFew
    simp only [↓vp, vq0, vq1, vq2, vq3, vr0, vr1, vr2, vr3, vr4, vr5, vr6, vr7, vr8, vr9, vr10, vr11, vr12, vr13, vr14, vr15, vr16, vr17, vr18, vr19, vr20, vr21, vr22, vr23, vr24, vr25, vr26, vr27, vr28, vr29, vr30, vr31, vr32, vr33, vr34, opS, fpS, okP, pack, nAl, allocA, shId, leaves, fillA, fillR, splice, Nat.reduceLT, Nat.reduceEqDiff, Nat.reduceLeDiff, Nat.reduceAdd, Nat.reduceSub, Nat.reduceMul, Int.reduceBEq, Int.reduceBNe, Int.reduceLT, Int.reduceLE, Int.reduceEq, reduceIte, reduceCtorEq, da, int, boolA, RetP_go, resT, resC, resN, retV1, retV2, retV3, retV0, frzFZ, takeM, Option.some.injEq, nodeC, kFew, kAl, g1, g3, hl, hk, k0, List.length_nil, Int.natCast_zero]
    refine fin _ ?_ ?_ <;> simp only [↓vp, vq0, vq1, vq2, vq3, vr0, vr1, vr2, vr3, vr4, vr5, vr6, vr7, vr8, vr9, vr10, vr11, vr12, vr13, vr14, vr15, vr16, vr17, vr18, vr19, vr20, vr21, vr22, vr23, vr24, vr25, vr26, vr27, vr28, vr29, vr30, vr31, vr32, vr33, vr34, opS, fpS, okP, pack, nAl, allocA, shId, leaves, fillA, fillR, splice, Nat.reduceLT, Nat.reduceEqDiff, Nat.reduceLeDiff, Nat.reduceAdd, Nat.reduceSub, Nat.reduceMul, Int.reduceBEq, Int.reduceBNe, Int.reduceLT, Int.reduceLE, Int.reduceEq, reduceIte, reduceCtorEq, da, int, boolA]
  · have k0 : ((0 : Int) < (([] : List ItemM).length : Nat)) = False := eq_false (by simp)
    cases hkk : n.kids with
    | nil =>
      rw [hl, hi, hkk] at fin
      rw [hl, hi, hkk] at kFew
      simp only [↓vp, vq0, vq1, vq2, vq3, vr0, vr1, vr2, vr3, vr4, vr5, vr6, vr7, vr8, vr9, vr10, vr11, vr12, vr13, vr14, vr15, vr16, vr17, vr18, vr19, vr20, vr21, vr22, vr23, vr24, vr25, vr26, vr27, vr28, vr29, vr30, vr31, vr32, vr33, vr34, opS, fpS, okP, pack, nAl, allocA, shId, leaves, fillA, fillR, splice, Nat.reduceLT, Nat.reduceEqDiff, Nat.reduceLeDiff, Nat.reduceAdd, Nat.reduceSub, Nat.reduceMul, Int.reduceBEq, Int.reduceBNe, Int.reduceLT, Int.reduceLE, Int.reduceEq, reduceIte, reduceCtorEq, da, int, boolA, RetP_go, resT, resC, resN, retV1, retV2, retV3, retV0, frzFZ, takeM, Option.some.injEq, nodeC, kFew, kAl, g1, g3, hl, hi, hkk, k0, List.length_nil, Int.natCast_zero]
      refine fin _ ?_ ?_ <;> simp only [↓vp, vq0, vq1, vq2, vq3, vr0, vr1, vr2, vr3, vr4, vr5, vr6, vr7, vr8, vr9, vr10, vr11, vr12, vr13, vr14, vr15, vr16, vr17, vr18, vr19, vr20, vr21, vr22, vr23, vr24, vr25, vr26, vr27, vr28, vr29, vr30, vr31, vr32, vr33, vr34, opS, fpS, okP, pack, nAl, allocA, shId, leaves, fillA, fillR, splice, Nat.reduceLT, Nat.reduceEqDiff, Nat.reduceLeDiff, Nat.reduceAdd, Nat.reduceSub, Nat.reduceMul, Int.reduceBEq, Int.reduceBNe, Int.reduceLT, Int.reduceLE, Int.reduceEq, reduceIte, reduceCtorEq, da, int, boolA]
    | cons x r =>
      have hx0 : x.key = [] := hk x (by rw [hkk]; rfl)
      have k1 : ((0 : Int) < ((r.length + 1 : Nat) : Int)) = True := eq_true (by omega)
      have k3 : ∀ H, iaddrA H none 2 (encK (x :: r)) 0 = some (.pim ((x :: r).map kidC) 0 0) := fun H => iaddr_map (l := x :: r) (g := kidC) (i := 0) (by simp) (fun _ => rfl)
      have k4 : ∀ H, cellsAt H (.pim (kidC x :: r.map kidC) 0 0) 1 = some [encB []] := fun _ => by rw [← hx0]; rfl
      rw [hl, hi, hkk] at fin
      rw [hl, hi, hkk] at kFew
      simp only [↓vp, vq0, vq1, vq2, vq3, vr0, vr1, vr2, vr3, vr4, vr5, vr6, vr7, vr8, vr9, vr10, vr11, vr12, vr13, vr14, vr15, vr16, vr17, vr18, vr19, vr20, vr21, vr22, vr23, vr24, vr25, vr26, vr27, vr28, vr29, vr30, vr31, vr32, vr33, vr34, opS, fpS, okP, pack, nAl, allocA, shId, leaves, fillA, fillR, splice, Nat.reduceLT, Nat.reduceEqDiff, Nat.reduceLeDiff, Nat.reduceAdd, Nat.reduceSub, Nat.reduceMul, Int.reduceBEq, Int.reduceBNe, Int.reduceLT, Int.reduceLE, Int.reduceEq, reduceIte, reduceCtorEq, da, int, boolA, RetP_go, resT, resC, resN, retV1, retV2, retV3, retV0, frzFZ, takeM, Option.some.injEq, nodeC, kFew, kAl, g1, g3, hl, hi, hkk, k0, k1, k3, k4, List.length_nil, Int.natCast_zero]
      refine fin _ ?_ ?_ <;> simp only [↓vp, vq0, vq1, vq2, vq3, vr0, vr1, vr2, vr3, vr4, vr5, vr6, vr7, vr8, vr9, vr10, vr11, vr12, vr13, vr14, vr15, vr16, vr17, vr18, vr19, vr20, vr21, vr22, vr23, vr24, vr25, vr26, vr27, vr28, vr29, vr30, vr31, vr32, vr33, vr34, opS, fpS, okP, pack, nAl, allocA, shId, leaves, fillA, fillR, splice, Nat.reduceLT, Nat.reduceEqDiff, Nat.reduceLeDiff, Nat.reduceAdd, Nat.reduceSub, Nat.reduceMul, Int.reduceBEq, Int.reduceBNe, Int.reduceLT, Int.reduceLE, Int.reduceEq, reduceIte, reduceCtorEq, da, int, boolA]
end Go.VI
