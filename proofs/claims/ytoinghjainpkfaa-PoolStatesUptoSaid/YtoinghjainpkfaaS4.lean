import Derived.Test.YtoinghjainpkfaaS3
import Derived.Sort.AssemblyPlain
import Derived.Lib.BitFns
/- What the claim hangs on, part 4: VXI VXJ VXK VXL VXM VXN VXO VXP VZ VZT SA PA PB. -/
set_option linter.unusedVariables false
set_option linter.unusedSimpArgs false
set_option maxRecDepth 100000
namespace Go.VI
attribute [local congr] AW_congr OW_congr DW_congr NW_congr VW_congr GW_congr PW_congr KW_congr ite_congr' GV_congr CV_congr dx_congr dOW_congr dop_congr CP_congr AQ_congr AZ_congr callD_congr NQ_congr
section
variable {ft : FT} {sz b ins ov rot idx : Nat} {z : List AV} {H : Heap} {id len i j cn : Nat} {v : AV} {rsF rows xs : List (List AV)}
theorem rep_walk (hins : ft ins = some (.prim (insP sz b))) (hov : ft ov = some (.prim ovP)) (hz : z.length = sz) (hid : id < H.next) (hcn : rsF.length = cn) (hlen : len ≤ rows.length) (hpre : rsF.take rows.length = rows) (hall : ∀ r ∈ rsF, r.length = sz) (hij : i ≤ j) (hj : j ≤ len) (h1 : 1 < sz) (hvr : vRows H id v = some xs) (hxa : allSz sz xs = true) (hb : (len + xs.length) * b ≤ 140737488355328) (b0 : 0 < b) :
    dCall ft (kap id cn) 224 [.tmp 8] (repC sz b z ins ov rot idx) [.sl id 0 len, .sc (.int .i64 (i : Int)), .sc (.int .i64 (j : Int)), v] (H.set id (.row false sz rsF)) (FinR H id sz 0 ((rows.take len).take i ++ xs ++ (rows.take len).drop j)) := by
  have cdo : ∀ F C, calleeD ft (.fn (.func ov) F C) = none := fun _ _ => calleeD_det (isDp_prim hov)
  have cdi : ∀ F C, calleeD ft (.fn (.func ins) F C) = none := fun _ _ => calleeD_det (isDp_prim hins)
  have hv := vOk_of hid h1 hvr hxa
  have hrl : rows.length ≤ rsF.length := by have := congrArg List.length hpre; simp at this; omega
  have hlb : len + xs.length ≤ 140737488355328 := Nat.le_trans (Nat.le_mul_of_pos_right _ b0) hb
  have hR : ∀ R, (H.set id R).get id = some R := fun R => Heap.get_set_self _ hid
  have gq := fun R L => get_oldx (hR R) L
  have sq : ∀ R L b', (hx (H.set id R) L).set id b' = hx (H.set id b') L := fun R L b' => by rw [hx_set_old _ _ _ _ (by simpa using hid), set_set]
  have hw : ∀ k : Nat, k ≤ 140737488355328 → IntKind.i64.wrap (k : Int) = k := fun k hk => wrap_i64 (by omega)
  have hA : rsF.take len = rows.take len := by rw [← hpre, List.take_take, Nat.min_eq_left hlen]
  have lA : (rows.take len).length = len := by simp; omega
  have hAi : (rows.take len).take i = rsF.take i := by rw [← hA, List.take_take, Nat.min_eq_left (by omega)]
  have lAi : (rsF.take i).length = i := by simp; omega
  generalize hDD : (rows.take len).drop j = D
  have lD : D.length = len - j := by rw [← hDD]; simp; omega
  have hD : (rsF.drop j).take (len - j) = D := by rw [← hDD, ← hA, List.drop_take]
  have lR : ((rows.take len).take i ++ xs ++ D).length = i + xs.length + (len - j) := by
    simp only [List.length_append, lD]
    rw [hAi, lAi]
  have aD : allSz sz D = true := by
    simp only [allSz, List.all_eq_true, beq_iff_eq]
    intro r hr
    rw [← hD] at hr
    exact hall r (List.mem_of_mem_drop (List.mem_of_mem_take hr))
  have hrw := hv.rows
  have hlv := hv.len
  obtain ⟨tv, q0⟩ : ∃ tv, ∀ L, sliceA (hx (H.set id (.row false sz rsF)) L) sz (.sl id 0 len) (some (i : Int)) (some (j : Int)) none = some tv := ⟨_, fun L => sl_lh (gq _ L) (by omega) hij (by omega)⟩
  have q1 : ∀ L, sliceA (hx (H.set id (.row false sz rsF)) L) sz (.sl id 0 len) none (some (i : Int)) none = some (.sl id 0 i) := fun L => sl_hi (gq _ L) (by omega) (by omega)
  unfold dCall
  rw [enterE_mkE _ _ (by simp), ← hx_nil (H.set id _)]
  unfold repC
  by_cases e1 : i = j
  · subst e1
    have d1 : ((i : Int) == (i : Int)) = true := by simp
    have hk : insP sz b [.sl id 0 len, .sc (.int .i64 (i : Int)), v] (hx (H.set id (.row false sz rsF)) []) = some (.sl (H.next + 0) 0 ((rows.take len).take i ++ xs ++ D).length, (hx (H.set id .dead) (List.replicate 0 .dead)).put (H.next + 0) (.row false sz ((rows.take len).take i ++ xs ++ D))) := by
      unfold insP cutP
      simp only [gq, vRows_set hid hvr, Option.bind_some]
      rw [if_pos ⟨by trivial, h1, by omega, by omega, by omega, by omega, hxa, hb⟩]
      simp only [hx_nil, Heap.next_set, set_set, List.replicate_zero, Int.toNat_natCast, hA, hDD]
    have kk := fun Q => k_prim hins (Q := Q) hk (by simp only [List.replicate_zero, hx_nil]; simpa using Heap.next_put_le (H.set id .dead) _ (H.next + 0))
    simp only [vx, ↓vp, vq0, vq1, vq2, vq3, vr0, vr1, vr2, vr3, vr4, vr5, vr6, vr7, vr8, vr9, vr10, vr11, vr12, vr13, vr14, vr15, vr16, vr17, vr18, vr19, vr20, vr21, vr22, vr23, vr24, vr25, vr26, vr27, vr28, vr29, vr30, vr31, vr32, vr33, vr34, opS, fpS, extO, okP, pack, nAl, allocA, shId, leaves, fillA, fillR, splice, Nat.reduceLT, Nat.reduceEqDiff, Nat.reduceLeDiff, Nat.reduceAdd, Nat.reduceSub, Nat.reduceMul, Int.reduceBEq, Int.reduceBNe, Int.reduceLT, Int.reduceLE, Int.reduceEq, reduceIte, reduceCtorEq, opI0, opI1, q0, d1, kk, cdi]
    rw [res1 (by decide)]
    simp only [↓vp, vq0, vq1, vq2, vq3, vr0, vr1, vr2, vr3, vr4, vr5, vr6, vr7, vr8, vr9, vr10, vr11, vr12, vr13, vr14, vr15, vr16, vr17, vr18, vr19, vr20, vr21, vr22, vr23, vr24, vr25, vr26, vr27, vr28, vr29, vr30, vr31, vr32, vr33, vr34, opS, fpS, extO, okP, pack, nAl, allocA, shId, leaves, fillA, fillR, splice, Nat.reduceLT, Nat.reduceEqDiff, Nat.reduceLeDiff, Nat.reduceAdd, Nat.reduceSub, Nat.reduceMul, Int.reduceBEq, Int.reduceBNe, Int.reduceLT, Int.reduceLE, Int.reduceEq, reduceIte, reduceCtorEq]
    refine .inr (.inr ⟨rfl, ?_⟩)
    rw [List.replicate_zero, hx_nil, Nat.add_zero]
    have := hx_put0 (H.set id .dead) [] (.row false sz ((rows.take len).take i ++ xs ++ D))
    rw [Heap.next_set, hx_nil] at this
    rw [this]
    rfl
  have d1 : ((i : Int) == (j : Int)) = false := beq_eq_false_iff_ne.2 (by omega)
  by_cases e2 : j = len
  · subst e2
    have d2 : ((j : Int) == (j : Int)) = true := by simp
    have hDn : D = [] := List.eq_nil_of_length_eq_zero (by omega)
    subst hDn
    have lR' : ((rows.take j).take i ++ xs).length = i + xs.length := by
      rw [List.append_nil] at lR
      omega
    simp only [vx, ↓vp, vq0, vq1, vq2, vq3, vr0, vr1, vr2, vr3, vr4, vr5, vr6, vr7, vr8, vr9, vr10, vr11, vr12, vr13, vr14, vr15, vr16, vr17, vr18, vr19, vr20, vr21, vr22, vr23, vr24, vr25, vr26, vr27, vr28, vr29, vr30, vr31, vr32, vr33, vr34, opS, fpS, extO, okP, pack, nAl, allocA, shId, leaves, fillA, fillR, splice, Nat.reduceLT, Nat.reduceEqDiff, Nat.reduceLeDiff, Nat.reduceAdd, Nat.reduceSub, Nat.reduceMul, Int.reduceBEq, Int.reduceBNe, Int.reduceLT, Int.reduceLE, Int.reduceEq, reduceIte, reduceCtorEq, opI0, opI1, q0, q1, d1, d2, hrw]
    by_cases c3 : i + xs.length ≤ cn
    · refine AQ_in' (kap_self _ _) (gq _ _) (by omega) (Nat.le_trans (Nat.mul_le_mul_right _ (by omega)) hb) hxa (by omega) ?_
      rw [sq, Nat.zero_add]
      have lS : (spl rsF i xs).length = cn := by rw [spl_len (by omega), hcn]
      by_cases c4 : i + xs.length < j
      · have d4 : decide (((i + xs.length : Nat) : Int) < (j : Int)) = true := by simp; omega
        have q2 : ∀ L, sliceA (hx (H.set id (.row false sz (spl rsF i xs))) L) sz (.sl id 0 j) (some ((i + xs.length : Nat) : Int)) none none = some (.sl id (i + xs.length) (j - (i + xs.length))) := fun L => by rw [sl_lo (gq _ L) (by omega) (by omega), if_neg (by omega)]
        have p2 : ∀ L, clrA (hx (H.set id (.row false sz (spl rsF i xs))) L) sz z (.sl id (i + xs.length) (j - (i + xs.length))) = some (hx (H.set id (.row false sz (spl (spl rsF i xs) (i + xs.length) (List.replicate (j - (i + xs.length)) z)))) L) := fun L => by
          rw [clr_sl (gq _ _) (by omega), sq]
        simp only [vx, opS_clr, ↓vp, vq0, vq1, vq2, vq3, vr0, vr1, vr2, vr3, vr4, vr5, vr6, vr7, vr8, vr9, vr10, vr11, vr12, vr13, vr14, vr15, vr16, vr17, vr18, vr19, vr20, vr21, vr22, vr23, vr24, vr25, vr26, vr27, vr28, vr29, vr30, vr31, vr32, vr33, vr34, opS, fpS, extO, okP, pack, nAl, allocA, shId, leaves, fillA, fillR, splice, Nat.reduceLT, Nat.reduceEqDiff, Nat.reduceLeDiff, Nat.reduceAdd, Nat.reduceSub, Nat.reduceMul, Int.reduceBEq, Int.reduceBNe, Int.reduceLT, Int.reduceLE, Int.reduceEq, reduceIte, reduceCtorEq, opI0, opI1, d4, q2, p2]
        rw [res1 (by decide)]
        simp only [↓vp, vq0, vq1, vq2, vq3, vr0, vr1, vr2, vr3, vr4, vr5, vr6, vr7, vr8, vr9, vr10, vr11, vr12, vr13, vr14, vr15, vr16, vr17, vr18, vr19, vr20, vr21, vr22, vr23, vr24, vr25, vr26, vr27, vr28, vr29, vr30, vr31, vr32, vr33, vr34, opS, fpS, extO, okP, pack, nAl, allocA, shId, leaves, fillA, fillR, splice, Nat.reduceLT, Nat.reduceEqDiff, Nat.reduceLeDiff, Nat.reduceAdd, Nat.reduceSub, Nat.reduceMul, Int.reduceBEq, Int.reduceBNe, Int.reduceLT, Int.reduceLE, Int.reduceEq, reduceIte, reduceCtorEq]
        refine fin_in (g := 0) lR'.symm (by rw [spl_len (by simp; omega)]; omega) ?_
        rw [List.drop_zero, spl_pre (by simp; omega), spl_end (by omega), hAi]
      · have d4 : decide (((i + xs.length : Nat) : Int) < (j : Int)) = false := by simp; omega
        simp only [vx, ↓vp, vq0, vq1, vq2, vq3, vr0, vr1, vr2, vr3, vr4, vr5, vr6, vr7, vr8, vr9, vr10, vr11, vr12, vr13, vr14, vr15, vr16, vr17, vr18, vr19, vr20, vr21, vr22, vr23, vr24, vr25, vr26, vr27, vr28, vr29, vr30, vr31, vr32, vr33, vr34, opS, fpS, extO, okP, pack, nAl, allocA, shId, leaves, fillA, fillR, splice, Nat.reduceLT, Nat.reduceEqDiff, Nat.reduceLeDiff, Nat.reduceAdd, Nat.reduceSub, Nat.reduceMul, Int.reduceBEq, Int.reduceBNe, Int.reduceLT, Int.reduceLE, Int.reduceEq, reduceIte, reduceCtorEq, opI0, opI1, d4]
        rw [res1 (by decide)]
        simp only [↓vp, vq0, vq1, vq2, vq3, vr0, vr1, vr2, vr3, vr4, vr5, vr6, vr7, vr8, vr9, vr10, vr11, vr12, vr13, vr14, vr15, vr16, vr17, vr18, vr19, vr20, vr21, vr22, vr23, vr24, vr25, vr26, vr27, vr28, vr29, vr30, vr31, vr32, vr33, vr34, opS, fpS, extO, okP, pack, nAl, allocA, shId, leaves, fillA, fillR, splice, Nat.reduceLT, Nat.reduceEqDiff, Nat.reduceLeDiff, Nat.reduceAdd, Nat.reduceSub, Nat.reduceMul, Int.reduceBEq, Int.reduceBNe, Int.reduceLT, Int.reduceLE, Int.reduceEq, reduceIte, reduceCtorEq]
        refine fin_in (g := 0) lR'.symm (by omega) ?_
        rw [List.drop_zero, spl_end (by omega), hAi]
    · have d4 : decide (((i + xs.length : Nat) : Int) < (j : Int)) = false := by simp; omega
      refine AQ_new (kap_self _ _) (gq _ _) (by omega) (Nat.le_trans (Nat.mul_le_mul_right _ (by omega)) hb) hxa (by omega) ?_
      simp only [vx, ↓vp, vq0, vq1, vq2, vq3, vr0, vr1, vr2, vr3, vr4, vr5, vr6, vr7, vr8, vr9, vr10, vr11, vr12, vr13, vr14, vr15, vr16, vr17, vr18, vr19, vr20, vr21, vr22, vr23, vr24, vr25, vr26, vr27, vr28, vr29, vr30, vr31, vr32, vr33, vr34, opS, fpS, extO, okP, pack, nAl, allocA, shId, leaves, fillA, fillR, splice, Nat.reduceLT, Nat.reduceEqDiff, Nat.reduceLeDiff, Nat.reduceAdd, Nat.reduceSub, Nat.reduceMul, Int.reduceBEq, Int.reduceBNe, Int.reduceLT, Int.reduceLE, Int.reduceEq, reduceIte, reduceCtorEq, opI0, opI1, d4]
      rw [res1 (by decide)]
      simp only [↓vp, vq0, vq1, vq2, vq3, vr0, vr1, vr2, vr3, vr4, vr5, vr6, vr7, vr8, vr9, vr10, vr11, vr12, vr13, vr14, vr15, vr16, vr17, vr18, vr19, vr20, vr21, vr22, vr23, vr24, vr25, vr26, vr27, vr28, vr29, vr30, vr31, vr32, vr33, vr34, opS, fpS, extO, okP, pack, nAl, allocA, shId, leaves, fillA, fillR, splice, Nat.reduceLT, Nat.reduceEqDiff, Nat.reduceLeDiff, Nat.reduceAdd, Nat.reduceSub, Nat.reduceMul, Int.reduceBEq, Int.reduceBNe, Int.reduceLT, Int.reduceLE, Int.reduceEq, reduceIte, reduceCtorEq]
      refine fin_new lR'.symm ?_
      try rw [List.drop_zero]
      rw [hAi]
  have d2 : ((j : Int) == (len : Int)) = false := beq_eq_false_iff_ne.2 (by omega)
  have hjl : j < len := by omega
  generalize hT : i + xs.length + (len - j) = T at lR
  have hTb : T ≤ len + xs.length := by omega
  have w1 : IntKind.i64.wrap ((i : Int) + (xs.length : Int)) = ((i + xs.length : Nat) : Int) := by rw [← Int.natCast_add]; exact hw _ (by omega)
  have w2 : IntKind.i64.wrap (((i + xs.length : Nat) : Int) + ((len - j : Nat) : Int)) = (T : Int) := by
    rw [show ((i + xs.length : Nat) : Int) + ((len - j : Nat) : Int) = (T : Int) by omega]
    exact hw _ (by omega)
  have w3 : IntKind.i64.wrap ((T : Int) - (i : Int)) = ((T - i : Nat) : Int) := by
    rw [show (T : Int) - (i : Int) = ((T - i : Nat) : Int) by omega]
    exact hw _ (by omega)
  have cc : ∀ G K, CP (kap id cn) (.sl id 0 len) G K ↔ K (.sc (.int .i64 ((cn - 0 : Nat) : Int))) G := fun G K => CP_sl (kap_self id cn)
  have q3 : ∀ L, sliceA (hx (H.set id (.row false sz rsF)) L) sz (.sl id 0 len) (some (j : Int)) none none = some (.sl id j (len - j)) := fun L => by rw [sl_lo (gq _ L) (by omega) (by omega), if_neg (by omega)]
  have q4 : ∀ L, rowsOf (hx (H.set id (.row false sz rsF)) L) (.sl id j (len - j)) = some D := fun L => by
    rw [rowsOf_sl, gq]
    simp only
    rw [if_pos (by omega), hD]
  by_cases c3 : cn < T
  · have d3 : decide (((cn - 0 : Nat) : Int) < (T : Int)) = true := by simp; omega
    have g2 : ∀ R B L, (hx (H.set id R) (B :: L)).get H.next = some B := fun R B L => by
      have := hx_get0 (H.set id R) (B :: L)
      rwa [Heap.next_set] at this
    have st2 : ∀ R B b', (hx (H.set id R) [B]).set H.next b' = hx (H.set id R) [b'] := fun R B b' => by
      have := hx_set0 (H.set id R) [B] b'
      rwa [Heap.next_set] at this
    have pt2 : ∀ R B, (hx (H.set id R) []).put H.next B = hx (H.set id R) [B] := fun R B => by
      have := hx_put0 (H.set id R) [] B
      rw [Heap.next_set] at this
      rw [this]
      rfl
    simp only [vx, ↓vp, vq0, vq1, vq2, vq3, vr0, vr1, vr2, vr3, vr4, vr5, vr6, vr7, vr8, vr9, vr10, vr11, vr12, vr13, vr14, vr15, vr16, vr17, vr18, vr19, vr20, vr21, vr22, vr23, vr24, vr25, vr26, vr27, vr28, vr29, vr30, vr31, vr32, vr33, vr34, opS, fpS, extO, okP, pack, nAl, allocA, shId, leaves, fillA, fillR, splice, Nat.reduceLT, Nat.reduceEqDiff, Nat.reduceLeDiff, Nat.reduceAdd, Nat.reduceSub, Nat.reduceMul, Int.reduceBEq, Int.reduceBNe, Int.reduceLT, Int.reduceLE, Int.reduceEq, reduceIte, reduceCtorEq, opI0, opI1, q0, q1, q3, d1, d2, hlv, cc, w1, w2, w3, d3]
    refine AZ_new (kap_self _ _) (gq _ _) (by omega) (Nat.le_trans (Nat.mul_le_mul_right _ (by omega)) hb) hz (by omega) ?_
    rw [pt2, List.drop_zero]
    have e3 : i + (T - i) = T := by omega
    rw [e3]
    have s3 : ∀ R B L (k n : Nat), n ≤ B.length → k ≤ n → sliceA (hx (H.set id R) (.row false sz B :: L)) sz (.sl H.next 0 n) (some (k : Int)) none none = some (if 0 < k ∧ k = n then .lst [] else .sl H.next k (n - k)) := fun R B L k n h h2 => sl_lo (g2 _ _ L) h h2
    have cpN : ∀ R B off n X, off + n ≤ B.length → X.length ≤ n → allSz sz X = true → copyA (hx (H.set id R) [.row false sz B]) sz (.sl H.next off n) X = some (X.length, hx (H.set id R) [.row false sz (spl B off X)]) := fun R B off n X h1 h2 h3 => by
      rw [copy_sl (g2 _ _ _) h1 h3, Nat.min_eq_left h2, List.take_length, st2]
    have lN : (rsF.take i ++ List.replicate (T - i) z).length = T := by rw [List.length_append, lAi, List.length_replicate]; omega
    have lN2 : (spl (rsF.take i ++ List.replicate (T - i) z) i xs).length = T := by rw [spl_len (by omega), lN]
    generalize hN : rsF.take i ++ List.replicate (T - i) z = N0 at lN lN2
    have q5 : ∀ L, sliceA (hx (H.set id (.row false sz rsF)) (.row false sz N0 :: L)) sz (.sl H.next 0 T) (some (i : Int)) none none = some (.sl H.next i (T - i)) := fun L => by rw [s3 _ _ _ _ _ (by omega) (by omega), if_neg (by omega)]
    have q6 : ∀ L, sliceA (hx (H.set id (.row false sz rsF)) (.row false sz (spl N0 i xs) :: L)) sz (.sl H.next 0 T) (some ((i + xs.length : Nat) : Int)) none none = some (.sl H.next (i + xs.length) (T - (i + xs.length))) := fun L => by rw [s3 _ _ _ _ _ (by omega) (by omega), if_neg (by omega)]
    have p1 := cpN (.row false sz rsF) N0 i (T - i) xs (by omega) (by omega) hxa
    have p2 := cpN (.row false sz rsF) (spl N0 i xs) (i + xs.length) (T - (i + xs.length)) D (by omega) (by omega) aD
    simp only [vx, ↓vp, vq0, vq1, vq2, vq3, vr0, vr1, vr2, vr3, vr4, vr5, vr6, vr7, vr8, vr9, vr10, vr11, vr12, vr13, vr14, vr15, vr16, vr17, vr18, vr19, vr20, vr21, vr22, vr23, vr24, vr25, vr26, vr27, vr28, vr29, vr30, vr31, vr32, vr33, vr34, opS, fpS, extO, okP, pack, nAl, allocA, shId, leaves, fillA, fillR, splice, Nat.reduceLT, Nat.reduceEqDiff, Nat.reduceLeDiff, Nat.reduceAdd, Nat.reduceSub, Nat.reduceMul, Int.reduceBEq, Int.reduceBNe, Int.reduceLT, Int.reduceLE, Int.reduceEq, reduceIte, reduceCtorEq, opI0, opI1, q3, q4, q5, q6, p1, p2, hrw, hlv, w1]
    rw [res1 (by decide)]
    simp only [↓vp, vq0, vq1, vq2, vq3, vr0, vr1, vr2, vr3, vr4, vr5, vr6, vr7, vr8, vr9, vr10, vr11, vr12, vr13, vr14, vr15, vr16, vr17, vr18, vr19, vr20, vr21, vr22, vr23, vr24, vr25, vr26, vr27, vr28, vr29, vr30, vr31, vr32, vr33, vr34, opS, fpS, extO, okP, pack, nAl, allocA, shId, leaves, fillA, fillR, splice, Nat.reduceLT, Nat.reduceEqDiff, Nat.reduceLeDiff, Nat.reduceAdd, Nat.reduceSub, Nat.reduceMul, Int.reduceBEq, Int.reduceBNe, Int.reduceLT, Int.reduceLE, Int.reduceEq, reduceIte, reduceCtorEq]
    refine fin_new lR.symm ?_
    rw [← hN, spl_new lAi (by rw [List.length_replicate]; omega), hAi]
  have d3 : decide (((cn - 0 : Nat) : Int) < (T : Int)) = false := by simp; omega
  have q5 : ∀ L, sliceA (hx (H.set id (.row false sz rsF)) L) sz (.sl id 0 len) none (some (T : Int)) none = some (.sl id 0 T) := fun L => sl_hi (gq _ L) (by omega) (by omega)
  by_cases c4 : i + xs.length ≤ j
  · have d4 : decide (((i + xs.length : Nat) : Int) ≤ (j : Int)) = true := by simp; omega
    have lS : (spl rsF i xs).length = cn := by rw [spl_len (by omega), hcn]
    have lS2 : (spl (spl rsF i xs) (i + xs.length) D).length = cn := by rw [spl_len (by omega), lS]
    have q6 : ∀ L, sliceA (hx (H.set id (.row false sz rsF)) L) sz (.sl id 0 T) (some (i : Int)) none none = some (.sl id i (T - i)) := fun L => by rw [sl_lo (gq _ L) (by omega) (by omega), if_neg (by omega)]
    have p1 : ∀ L, copyA (hx (H.set id (.row false sz rsF)) L) sz (.sl id i (T - i)) xs = some (xs.length, hx (H.set id (.row false sz (spl rsF i xs))) L) := fun L => by
      rw [copy_sl (gq _ _) (by omega) hxa, sq, Nat.min_eq_left (by omega), List.take_length]
    have q7 : ∀ L, sliceA (hx (H.set id (.row false sz (spl rsF i xs))) L) sz (.sl id 0 T) (some ((i + xs.length : Nat) : Int)) none none = some (.sl id (i + xs.length) (T - (i + xs.length))) := fun L => by rw [sl_lo (gq _ L) (by omega) (by omega), if_neg (by omega)]
    have q8 : ∀ L, sliceA (hx (H.set id (.row false sz (spl rsF i xs))) L) sz (.sl id 0 len) (some (j : Int)) none none = some (.sl id j (len - j)) := fun L => by rw [sl_lo (gq _ L) (by omega) (by omega), if_neg (by omega)]
    have hSj : (spl rsF i xs).drop j = rsF.drop j := by
      have e1 : rsF = rsF.take i ++ rsF.drop i := (List.take_append_drop _ _).symm
      conv => lhs; rw [e1]
      rw [spl_app lAi, List.drop_append, List.drop_eq_nil_of_le (by simp; omega), List.nil_append, List.drop_drop, List.drop_drop]
      congr 1
      simp [lAi]
      omega
    have q9 : ∀ L, rowsOf (hx (H.set id (.row false sz (spl rsF i xs))) L) (.sl id j (len - j)) = some D := fun L => by
      rw [rowsOf_sl, gq]
      simp only
      rw [if_pos (by omega), hSj, hD]
    have p2 : ∀ L, copyA (hx (H.set id (.row false sz (spl rsF i xs))) L) sz (.sl id (i + xs.length) (T - (i + xs.length))) D = some (D.length, hx (H.set id (.row false sz (spl (spl rsF i xs) (i + xs.length) D))) L) := fun L => by
      rw [copy_sl (gq _ _) (by omega) aD, sq, Nat.min_eq_left (by omega), List.take_length]
    obtain ⟨cv, qa, pa⟩ : ∃ cv, (∀ L, sliceA (hx (H.set id (.row false sz (spl (spl rsF i xs) (i + xs.length) D))) L) sz (.sl id 0 len) (some (T : Int)) none none = some cv) ∧ ∃ n, T + n ≤ cn ∧ ∀ L, clrA (hx (H.set id (.row false sz (spl (spl rsF i xs) (i + xs.length) D))) L) sz z cv = some (hx (H.set id (.row false sz (spl (spl (spl rsF i xs) (i + xs.length) D) T (List.replicate n z)))) L) := by
      by_cases e : 0 < T ∧ T = len
      · refine ⟨.lst [], fun L => by rw [sl_lo (gq _ L) (by omega) (by omega), if_pos e], 0, by omega, fun L => ?_⟩
        have h0 : ∀ l : List (List AV), spl l T (List.replicate 0 z) = l := fun l => splice_nil l T
        rw [h0]
        rfl
      · refine ⟨.sl id T (len - T), fun L => by rw [sl_lo (gq _ L) (by omega) (by omega), if_neg e], len - T, by omega, fun L => ?_⟩
        rw [clr_sl (gq _ _) (by omega), sq]
    obtain ⟨nn, hnn, pa⟩ := pa
    simp only [vx, opS_clr, ↓vp, vq0, vq1, vq2, vq3, vr0, vr1, vr2, vr3, vr4, vr5, vr6, vr7, vr8, vr9, vr10, vr11, vr12, vr13, vr14, vr15, vr16, vr17, vr18, vr19, vr20, vr21, vr22, vr23, vr24, vr25, vr26, vr27, vr28, vr29, vr30, vr31, vr32, vr33, vr34, opS, fpS, extO, okP, pack, nAl, allocA, shId, leaves, fillA, fillR, splice, Nat.reduceLT, Nat.reduceEqDiff, Nat.reduceLeDiff, Nat.reduceAdd, Nat.reduceSub, Nat.reduceMul, Int.reduceBEq, Int.reduceBNe, Int.reduceLT, Int.reduceLE, Int.reduceEq, reduceIte, reduceCtorEq, opI0, opI1, q0, q1, q3, q4, q5, q6, q7, q8, q9, p1, p2, qa, pa, hrw, hlv, d1, d2, cc, w1, w2, d3, d4]
    rw [res1 (by decide)]
    simp only [↓vp, vq0, vq1, vq2, vq3, vr0, vr1, vr2, vr3, vr4, vr5, vr6, vr7, vr8, vr9, vr10, vr11, vr12, vr13, vr14, vr15, vr16, vr17, vr18, vr19, vr20, vr21, vr22, vr23, vr24, vr25, vr26, vr27, vr28, vr29, vr30, vr31, vr32, vr33, vr34, opS, fpS, extO, okP, pack, nAl, allocA, shId, leaves, fillA, fillR, splice, Nat.reduceLT, Nat.reduceEqDiff, Nat.reduceLeDiff, Nat.reduceAdd, Nat.reduceSub, Nat.reduceMul, Int.reduceBEq, Int.reduceBNe, Int.reduceLT, Int.reduceLE, Int.reduceEq, reduceIte, reduceCtorEq]
    refine fin_in (g := 0) lR.symm (by rw [spl_len (by simp; omega)]; omega) ?_
    rw [List.drop_zero, spl_pre (by simp; omega)]
    have := spl_in3 (R := rsF) (xs := xs) (D := D) (i := i) (by omega)
    rw [lD, hT] at this
    rw [this, hAi]
  · have d4 : decide (((i + xs.length : Nat) : Int) ≤ (j : Int)) = false := by simp; omega
    have lS : (spl rsF (i + xs.length) D).length = cn := by rw [spl_len (by omega), hcn]
    have q6 : ∀ L, sliceA (hx (H.set id (.row false sz rsF)) L) sz (.sl id 0 T) (some ((i + xs.length : Nat) : Int)) none none = some (.sl id (i + xs.length) (T - (i + xs.length))) := fun L => by rw [sl_lo (gq _ L) (by omega) (by omega), if_neg (by omega)]
    have p1 : ∀ L, copyA (hx (H.set id (.row false sz rsF)) L) sz (.sl id (i + xs.length) (T - (i + xs.length))) D = some (D.length, hx (H.set id (.row false sz (spl rsF (i + xs.length) D))) L) := fun L => by
      rw [copy_sl (gq _ _) (by omega) aD, sq, Nat.min_eq_left (by omega), List.take_length]
    have q7 : ∀ L, sliceA (hx (H.set id (.row false sz (spl rsF (i + xs.length) D))) L) sz (.sl id 0 T) (some (i : Int)) none none = some (.sl id i (T - i)) := fun L => by rw [sl_lo (gq _ L) (by omega) (by omega), if_neg (by omega)]
    have p2 : ∀ L, copyA (hx (H.set id (.row false sz (spl rsF (i + xs.length) D))) L) sz (.sl id i (T - i)) xs = some (xs.length, hx (H.set id (.row false sz (spl (spl rsF (i + xs.length) D) i xs))) L) := fun L => by
      rw [copy_sl (gq _ _) (by omega) hxa, sq, Nat.min_eq_left (by omega), List.take_length]
    have ko : ∀ Q, KW ft (.fn (.func ov) [] []) [.sl id (i + xs.length) (T - (i + xs.length)), v] (hx (H.set id (.row false sz rsF)) []) Q ↔ Q (.sc (.bool false)) (hx (H.set id (.row false sz rsF)) []) := fun Q => k_ov hov (hv.ovr _ _ _ _ (by omega))
    simp only [vx, ↓vp, vq0, vq1, vq2, vq3, vr0, vr1, vr2, vr3, vr4, vr5, vr6, vr7, vr8, vr9, vr10, vr11, vr12, vr13, vr14, vr15, vr16, vr17, vr18, vr19, vr20, vr21, vr22, vr23, vr24, vr25, vr26, vr27, vr28, vr29, vr30, vr31, vr32, vr33, vr34, opS, fpS, extO, okP, pack, nAl, allocA, shId, leaves, fillA, fillR, splice, Nat.reduceLT, Nat.reduceEqDiff, Nat.reduceLeDiff, Nat.reduceAdd, Nat.reduceSub, Nat.reduceMul, Int.reduceBEq, Int.reduceBNe, Int.reduceLT, Int.reduceLE, Int.reduceEq, reduceIte, reduceCtorEq, opI0, opI1, q0, q1, q3, q4, q5, q6, q7, p1, p2, ko, cdo, hrw, hlv, d1, d2, cc, w1, w2, d3, d4]
    rw [res1 (by decide)]
    simp only [↓vp, vq0, vq1, vq2, vq3, vr0, vr1, vr2, vr3, vr4, vr5, vr6, vr7, vr8, vr9, vr10, vr11, vr12, vr13, vr14, vr15, vr16, vr17, vr18, vr19, vr20, vr21, vr22, vr23, vr24, vr25, vr26, vr27, vr28, vr29, vr30, vr31, vr32, vr33, vr34, opS, fpS, extO, okP, pack, nAl, allocA, shId, leaves, fillA, fillR, splice, Nat.reduceLT, Nat.reduceEqDiff, Nat.reduceLeDiff, Nat.reduceAdd, Nat.reduceSub, Nat.reduceMul, Int.reduceBEq, Int.reduceBNe, Int.reduceLT, Int.reduceLE, Int.reduceEq, reduceIte, reduceCtorEq]
    refine fin_in (g := 0) lR.symm (by rw [spl_len (by omega)]; omega) ?_
    have := spl_in (R := rsF) (xs := xs) (D := D) (i := i) (n := i + D.length) (by omega) (by omega) (by omega)
    rw [show i + D.length + xs.length = T by omega] at this
    rw [List.drop_zero, this, hAi]
end
end Go.VI

set_option linter.unusedVariables false
set_option linter.unusedSimpArgs false
set_option maxRecDepth 100000
namespace Go.VI
attribute [local congr] AW_congr OW_congr DW_congr NW_congr VW_congr GW_congr PW_congr KW_congr ite_congr' GV_congr CV_congr dx_congr dOW_congr dop_congr CP_congr AQ_congr AZ_congr callD_congr NQ_congr
theorem sl_nil0 (H : Heap) (sz : Nat) (a c : Option Int) (ha : a = none ∨ a = some 0) (hc : c = none ∨ c = some 0) : sliceA H sz (.sc (.slice none 0 0)) a c none = some (.sc (.slice none 0 0)) := by
  rcases ha with rfl | rfl <;> rcases hc with rfl | rfl <;> rfl
theorem res_tmp {H : Heap} {n t : Nat} {f : Nat → AV} (ht : t < n) : resultsA H (mkE n f) [.tmp t] = some (f t) := by
  simp only [resultsA, List.mapM_cons, List.mapM_nil, resOf]
  rw [mkE_get, if_pos ht]
  rfl
theorem lenV_v {H G : Heap} {id : Nat} {v : AV} {xs : List (List AV)} (h : vRows H id v = some xs) : lenV G 0 v = some (.sc (.int .i64 (xs.length : Int)), G) := by
  unfold vRows at h
  split at h
  · cases h; rfl
  · cases h; rfl
  · cases h; rfl
  · rename_i j off l
    split at h
    · rw [rowsOf_sl] at h
      split at h
      · split at h
        · rename_i hle
          cases h
          rw [lenV_sl]
          simp
          omega
        · cases h
      · cases h
    · cases h
  · cases h
section
variable {ft : FT} {sz b ins ov rot idx : Nat} {z : List AV}
theorem ins_nil {H : Heap} {v : AV} {xs : List (List AV)} (hx1 : vRows H H.next v = some xs) (ha : allSz sz xs = true) (hb : xs.length * b ≤ 140737488355328) {r : AV} {H' : Heap}
    (h : (xs.length = 0 ∧ r = .sc (.slice none 0 0) ∧ H' = H) ∨ (xs.length ≠ 0 ∧ r = .sl H.next 0 xs.length ∧ H' = H.put H.next (.row false sz xs))) :
    dCall ft (fun _ => none) 95 [.tmp 6] (insC sz b z ov rot) [.sc (.slice none 0 0), .sc (.int .i64 0), v] H fun r2 H2 => r2 = r ∧ H2 = H' := by
  have hlv := fun G => lenV_v (G := G) hx1
  have hrw : rowsOf (hx H []) v = some xs := by rw [hx_nil]; exact vRows_rows hx1
  have s0 := fun G => sl_nil0 G sz (some 0) none (.inr rfl) (.inl rfl)
  unfold dCall
  rw [enterE_mkE _ _ (by simp), ← hx_nil H]
  unfold insC
  rcases h with ⟨h0, rfl, rfl⟩ | ⟨h0, rfl, rfl⟩
  · have d1 : ((xs.length : Int) == 0) = true := by simp [h0]
    simp only [vx, ↓vp, vq0, vq1, vq2, vq3, vr0, vr1, vr2, vr3, vr4, vr5, vr6, vr7, vr8, vr9, vr10, vr11, vr12, vr13, vr14, vr15, vr16, vr17, vr18, vr19, vr20, vr21, vr22, vr23, vr24, vr25, vr26, vr27, vr28, vr29, vr30, vr31, vr32, vr33, vr34, opS, fpS, extO, okP, pack, nAl, allocA, shId, leaves, fillA, fillR, splice, Nat.reduceLT, Nat.reduceEqDiff, Nat.reduceLeDiff, Nat.reduceAdd, Nat.reduceSub, Nat.reduceMul, Int.reduceBEq, Int.reduceBNe, Int.reduceLT, Int.reduceLE, Int.reduceEq, reduceIte, reduceCtorEq, opI0, opI1, s0, hlv, d1]
    refine ⟨_, res_tmp (by decide), ?_⟩
    simp only [↓vp, vq0, vq1, vq2, vq3, vr0, vr1, vr2, vr3, vr4, vr5, vr6, vr7, vr8, vr9, vr10, vr11, vr12, vr13, vr14, vr15, vr16, vr17, vr18, vr19, vr20, vr21, vr22, vr23, vr24, vr25, vr26, vr27, vr28, vr29, vr30, vr31, vr32, vr33, vr34, opS, fpS, extO, okP, pack, nAl, allocA, shId, leaves, fillA, fillR, splice, Nat.reduceLT, Nat.reduceEqDiff, Nat.reduceLeDiff, Nat.reduceAdd, Nat.reduceSub, Nat.reduceMul, Int.reduceBEq, Int.reduceBNe, Int.reduceLT, Int.reduceLE, Int.reduceEq, reduceIte, reduceCtorEq]
    exact hx_nil _
  · have d1 : ((xs.length : Int) == 0) = false := beq_eq_false_iff_ne.2 (by omega)
    have h1 : (xs.length = 0) = False := eq_false h0
    have h2 : (xs.length * b ≤ 140737488355328) = True := eq_true hb
    simp only [vx, ↓vp, vq0, vq1, vq2, vq3, vr0, vr1, vr2, vr3, vr4, vr5, vr6, vr7, vr8, vr9, vr10, vr11, vr12, vr13, vr14, vr15, vr16, vr17, vr18, vr19, vr20, vr21, vr22, vr23, vr24, vr25, vr26, vr27, vr28, vr29, vr30, vr31, vr32, vr33, vr34, opS, fpS, extO, okP, pack, nAl, allocA, shId, leaves, fillA, fillR, splice, Nat.reduceLT, Nat.reduceEqDiff, Nat.reduceLeDiff, Nat.reduceAdd, Nat.reduceSub, Nat.reduceMul, Int.reduceBEq, Int.reduceBNe, Int.reduceLT, Int.reduceLE, Int.reduceEq, reduceIte, reduceCtorEq, opI0, opI1, s0, hlv, d1, hrw, AQ_nil, h1, h2, ha]
    refine ⟨_, res_tmp (by decide), ?_⟩
    simp only [↓vp, vq0, vq1, vq2, vq3, vr0, vr1, vr2, vr3, vr4, vr5, vr6, vr7, vr8, vr9, vr10, vr11, vr12, vr13, vr14, vr15, vr16, vr17, vr18, vr19, vr20, vr21, vr22, vr23, vr24, vr25, vr26, vr27, vr28, vr29, vr30, vr31, vr32, vr33, vr34, opS, fpS, extO, okP, pack, nAl, allocA, shId, leaves, fillA, fillR, splice, Nat.reduceLT, Nat.reduceEqDiff, Nat.reduceLeDiff, Nat.reduceAdd, Nat.reduceSub, Nat.reduceMul, Int.reduceBEq, Int.reduceBNe, Int.reduceLT, Int.reduceLE, Int.reduceEq, reduceIte, reduceCtorEq]
    have hp := hx_put0 H [] (.row false sz xs)
    rw [hx_nil] at hp
    rw [hp]
    rfl
theorem insP_sl (hov : ft ov = some (.prim ovP)) (hz : z.length = sz) (b0 : 0 < b) : SlP ft 95 [.tmp 6] (insC sz b z ov rot) (insP sz b) := by
  intro args H r H' h
  unfold insP at h
  split at h
  rotate_left
  · cases h
  rename_i s i v
  rcases cutP_some h with ⟨id, len, rows, xs, a, c, rfl, rfl, hc, hg, hvr, h1, hlen, hac, hcl, hxa, hb, rfl, rfl⟩ | ⟨xs, rfl, rfl, _, _, hvr, hxa, hb, h⟩
  · have hac' : a = c := by omega
    subst hac'
    refine .inl ⟨id, sz, 0, rows, _, ⟨0, len, by simp⟩, hg, rfl, rfl, fun rsF cn f1 f2 f3 => ?_⟩
    exact ins_walk hov hz (Heap.get_lt hg) f1 hlen f2 f3 hcl (vOk_of (Heap.get_lt hg) h1 hvr hxa) hb b0
  · exact .inr (ins_nil hvr hxa hb h)
theorem repP_sl (hins : ft ins = some (.prim (insP sz b))) (hov : ft ov = some (.prim ovP)) (hz : z.length = sz) (b0 : 0 < b) : SlP ft 224 [.tmp 8] (repC sz b z ins ov rot idx) (repP sz b) := by
  have cdi : ∀ F C, calleeD ft (.fn (.func ins) F C) = none := fun _ _ => calleeD_det (isDp_prim hins)
  intro args H r H' h
  unfold repP at h
  split at h
  rotate_left
  · cases h
  rename_i s i j v
  have h0 := h
  rcases cutP_some h with ⟨id, len, rows, xs, a, c, rfl, rfl, rfl, hg, hvr, h1, hlen, hac, hcl, hxa, hb, rfl, rfl⟩ | ⟨xs, rfl, rfl, rfl, _, hvr, hxa, hb, h⟩
  · refine .inl ⟨id, sz, 0, rows, _, ⟨0, len, by simp⟩, hg, rfl, rfl, fun rsF cn f1 f2 f3 => ?_⟩
    exact rep_walk hins hov hz (Heap.get_lt hg) f1 hlen f2 f3 hac hcl h1 hvr hxa hb b0
  · have s0 := fun G => sl_nil0 G sz (some 0) (some 0) (.inr rfl) (.inr rfl)
    have hle : H.next ≤ H'.next := by
      rcases h with ⟨_, _, rfl⟩ | ⟨_, _, rfl⟩
      · exact Nat.le_refl _
      · exact Heap.next_put_le _ _ _
    have hk : insP sz b [.sc (.slice none 0 0), .sc (.int .i64 0), v] (hx H []) = some (r, H') := by rw [hx_nil]; exact h0
    have kk := fun Q => k_prim hins (Q := Q) hk (by rw [hx_nil]; exact hle)
    right
    unfold dCall
    rw [enterE_mkE _ _ (by simp), ← hx_nil H]
    unfold repC
    simp only [vx, ↓vp, vq0, vq1, vq2, vq3, vr0, vr1, vr2, vr3, vr4, vr5, vr6, vr7, vr8, vr9, vr10, vr11, vr12, vr13, vr14, vr15, vr16, vr17, vr18, vr19, vr20, vr21, vr22, vr23, vr24, vr25, vr26, vr27, vr28, vr29, vr30, vr31, vr32, vr33, vr34, opS, fpS, extO, okP, pack, nAl, allocA, shId, leaves, fillA, fillR, splice, Nat.reduceLT, Nat.reduceEqDiff, Nat.reduceLeDiff, Nat.reduceAdd, Nat.reduceSub, Nat.reduceMul, Int.reduceBEq, Int.reduceBNe, Int.reduceLT, Int.reduceLE, Int.reduceEq, reduceIte, reduceCtorEq, opI0, opI1, s0, kk, cdi]
    rw [← hx_nil H']
    simp only [vx, ↓vp, vq0, vq1, vq2, vq3, vr0, vr1, vr2, vr3, vr4, vr5, vr6, vr7, vr8, vr9, vr10, vr11, vr12, vr13, vr14, vr15, vr16, vr17, vr18, vr19, vr20, vr21, vr22, vr23, vr24, vr25, vr26, vr27, vr28, vr29, vr30, vr31, vr32, vr33, vr34, opS, fpS, extO, okP, pack, nAl, allocA, shId, leaves, fillA, fillR, splice, Nat.reduceLT, Nat.reduceEqDiff, Nat.reduceLeDiff, Nat.reduceAdd, Nat.reduceSub, Nat.reduceMul, Int.reduceBEq, Int.reduceBNe, Int.reduceLT, Int.reduceLE, Int.reduceEq, reduceIte, reduceCtorEq]
    refine ⟨_, res_tmp (by decide), ?_⟩
    simp only [↓vp, vq0, vq1, vq2, vq3, vr0, vr1, vr2, vr3, vr4, vr5, vr6, vr7, vr8, vr9, vr10, vr11, vr12, vr13, vr14, vr15, vr16, vr17, vr18, vr19, vr20, vr21, vr22, vr23, vr24, vr25, vr26, vr27, vr28, vr29, vr30, vr31, vr32, vr33, vr34, opS, fpS, extO, okP, pack, nAl, allocA, shId, leaves, fillA, fillR, splice, Nat.reduceLT, Nat.reduceEqDiff, Nat.reduceLeDiff, Nat.reduceAdd, Nat.reduceSub, Nat.reduceMul, Int.reduceBEq, Int.reduceBNe, Int.reduceLT, Int.reduceLE, Int.reduceEq, reduceIte, reduceCtorEq]
end
end Go.VI

set_option linter.unusedVariables false
set_option linter.unusedSimpArgs false
namespace Go.VI
section
variable {P : Program}
def FrzTo (r : AV) (r2 : AV) (H2 : Heap) : Prop := ∃ H3, frz FZ H2 r2 = some (r, H3)
def SlD (ft : FT) (n : Nat) (rs : List ARes) (body : ACode) (p : List AV → Option AV) : Prop := ∀ args r, p args = some r → dCall ft (fun _ => none) n rs body args Heap.empty (FrzTo r)
theorem slD_ok (hP : P.follows .mixedOrders = true) {ft : FT} (hft : FTOk P ft) {k : FuncId} {n : Nat} {rs : List ARes} {body : ACode} (hg : GoFn P k n rs body) {p : List AV → Option AV} (hp : SlD ft n rs body p) : PPrimOk P k p := by
  intro args r h m F H w vs hI hl hv
  have hI0 : Inv P (fun _ => none) F Heap.empty w := ⟨hI.fz, fun _ _ h => (by cases h), fun _ _ _ h _ => (by cases h), fun _ _ _ _ h _ _ _ _ => (by cases h)⟩
  obtain ⟨h1, h2⟩ := dx_calls hP hft hg hI0 (κ := fun _ => none) (fun id cn h => by cases h) (args := args) (vs := vs) ⟨hl, fun i c hc => .fz (hv i c hc)⟩ (hp args r h)
  refine .inl ⟨h1, h2.mono fun en w2 ⟨r1, Hc, ⟨Hc2, hz2⟩, u, m', F', he, hr, hI2, hE2, hG⟩ => ?_⟩
  obtain ⟨F2, o2, hvf⟩ := (frz_sound FZ).1 Hc Hc2 F' r1 r u hz2 hI2 hr
  have hold : ∀ b, b < w.heap.size → w2.heap[b]? = w.heap[b]? := fun b hb => hE2.blk b hb (fun _ _ h => by cases h)
  have hmn : ∀ id mb, m' id = some mb → w.heap.size ≤ mb.cb := fun id mb h => by
    rcases hE2.mn id mb h with h | h | ⟨_, _, h, _⟩
    · cases h
    · exact h
    · cases h
  have hF2 : ∀ b o v, F2 b o = some v → F b o = some v ∨ w.heap.size ≤ b := fun b o v hv => by
    rcases o2.fr.new b o v hv with h | ⟨id, mb, h, rfl⟩
    · rcases hE2.fn b o v h with h | h | ⟨_, _, h, _⟩
      · exact .inl h
      · exact .inr h
      · cases h
    · exact .inr (hmn id mb h)
  have hF12 : FLe F F2 := hE2.ff.trans o2.fr.le
  have hIm : Inv P m F2 H w2 := by
    refine hI.next (MLe.refl m) hF12 o2.inv.fz (fun id mb h => ?_) (fun id mb B h hB => ?_) hI.inj
    · have := hI.lt id mb h
      have := hE2.sz
      omega
    · have hlt := (hI.lt id mb h).2
      refine .inl ⟨h, hB, hold _ hlt, fun o v hv => ?_⟩
      rcases hF2 _ o v hv with h | h
      · exact h
      · omega
  have hEm : Ext m F w m F2 w2 := ⟨MLe.refl m, hF12, hE2.sz, hE2.tape, hE2.os, hE2.out, fun b hb _ => hold b hb, fun _ _ h => .inl h, fun b o v hv => by
    rcases hF2 b o v hv with h | h
    · exact .inl h
    · exact .inr (.inl h)⟩
  exact ⟨u, m, F2, he, .fz hvf, hIm, hEm, ⟨fun _ _ h => .inl h, Nat.le_refl _⟩⟩
end
/-- What Clone may tell. -/
def cloD (sz b : Nat) (args : List AV) (H : Heap) (K : AV → Heap → Prop) : Prop :=
  match args with
  | [.lst []] => K (.sc (.slice none 0 0)) H ∧ K .emp (H.put H.next .dead)
  | [v] => ∃ xs, vRows H H.next v = some xs ∧ xs ≠ [] ∧ xs.length * b ≤ 140737488355328 ∧ allSz sz xs = true ∧ K (.sl (H.next + 1) 0 xs.length) (hx H [.dead, .row false sz xs])
  | _ => False
end Go.VI

set_option linter.unusedVariables false
set_option linter.unusedSimpArgs false
set_option maxRecDepth 100000
namespace Go.VI
attribute [local congr] AW_congr OW_congr DW_congr NW_congr VW_congr GW_congr PW_congr KW_congr ite_congr' GV_congr CV_congr dx_congr dOW_congr dop_congr CP_congr AQ_congr AZ_congr callD_congr NQ_congr
def cloC (sz b : Nat) (z : List AV) : ACode := (.seq (.region [⟨(some 2), (.mov (.const (.slice none 0 0))), none⟩] false []) (.seq (.seq (.region [⟨(some 3), (.mov (.tmp 0)), none⟩, ⟨(some 4), (.isnil false 0 (.tmp 3)), none⟩] false []) (.cond (.tmp 4) (.seq (.region [⟨(some 2), (.mov (.const (.slice none 0 0))), none⟩] false []) .ret) .skip)) (.seq (.region [⟨(some 5), (.bslice sz z 0 []), none⟩, ⟨(some 6), (.mov (.tmp 0)), none⟩, ⟨(some 7), (.app sz b (.tmp 5) (.tmp 6)), none⟩, ⟨(some 2), (.mov (.tmp 7)), none⟩] false []) .ret)))
theorem AQ_det {nid sz b : Nat} {H : Heap} {s : AV} {o : Option (List (List AV))} {K : AV → Heap → Prop} : AQ (fun _ => none) nid H sz b s o K ↔ PW (o.bind fun xs => appA nid H sz b s xs) K := by
  unfold AQ
  rw [if_neg]
  unfold kOf
  split <;> simp
theorem NQ_det {H : Heap} {neg : Bool} {v : AV} {K : AV → Heap → Prop} {b : Bool} (h : isE v = false) (h2 : isnilA 0 v = some b) : NQ H neg 0 v K ↔ K (.sc (.bool (b != neg))) H := by
  unfold NQ
  rw [h, h2]
  simp only [Bool.and_false, Bool.false_eq_true, if_false, Option.map_some]
  exact PW_some
theorem rows_hx {H : Heap} {v : AV} {xs : List (List AV)} (L : List Blk) (h : rowsOf H v = some xs) : rowsOf (hx H L) v = some xs := by
  unfold rowsOf at h ⊢
  split at h
  · exact h
  · exact h
  · split at h
    · rename_i hg
      simp only [hx_get_old H L _ (Heap.get_lt hg), hg]
      exact h
    · cases h
  · cases h
section
variable {P : Program} {ft : FT} {sz b : Nat} {z : List AV}
theorem clo_dx {args : List AV} {H : Heap} {K : AV → Heap → Prop} (h : cloD sz b args H K) : dCall ft (fun _ => none) 8 [.tmp 2] (cloC sz b z) args H K := by
  unfold cloD at h
  split at h
  · obtain ⟨h1, h2⟩ := h
    unfold dCall
    rw [enterE_mkE _ _ (by simp), ← hx_nil H]
    rw [← hx_nil H] at h1
    unfold cloC
    have hx1 : H.put H.next .dead = hx H [.dead] := by
      have := hx_put0 H [] .dead
      rw [hx_nil] at this
      rw [this]
      rfl
    rw [hx1] at h2
    simp only [vx, ↓vp, vq0, vq1, vq2, vq3, vr0, vr1, vr2, vr3, vr4, vr5, vr6, vr7, vr8, vr9, vr10, vr11, vr12, vr13, vr14, vr15, vr16, vr17, vr18, vr19, vr20, vr21, vr22, vr23, vr24, vr25, vr26, vr27, vr28, vr29, vr30, vr31, vr32, vr33, vr34, opS, fpS, extO, okP, pack, nAl, allocA, shId, leaves, fillA, fillR, splice, Nat.reduceLT, Nat.reduceEqDiff, Nat.reduceLeDiff, Nat.reduceAdd, Nat.reduceSub, Nat.reduceMul, Int.reduceBEq, Int.reduceBNe, Int.reduceLT, Int.reduceLE, Int.reduceEq, reduceIte, reduceCtorEq, AQ_det, appA_emp]
    refine ⟨⟨_, res_tmp (by decide), ?_⟩, ⟨_, res_tmp (by decide), ?_⟩⟩
    · simp only [↓vp, vq0, vq1, vq2, vq3, vr0, vr1, vr2, vr3, vr4, vr5, vr6, vr7, vr8, vr9, vr10, vr11, vr12, vr13, vr14, vr15, vr16, vr17, vr18, vr19, vr20, vr21, vr22, vr23, vr24, vr25, vr26, vr27, vr28, vr29, vr30, vr31, vr32, vr33, vr34, opS, fpS, extO, okP, pack, nAl, allocA, shId, leaves, fillA, fillR, splice, Nat.reduceLT, Nat.reduceEqDiff, Nat.reduceLeDiff, Nat.reduceAdd, Nat.reduceSub, Nat.reduceMul, Int.reduceBEq, Int.reduceBNe, Int.reduceLT, Int.reduceLE, Int.reduceEq, reduceIte, reduceCtorEq]
      exact h1
    · simp only [↓vp, vq0, vq1, vq2, vq3, vr0, vr1, vr2, vr3, vr4, vr5, vr6, vr7, vr8, vr9, vr10, vr11, vr12, vr13, vr14, vr15, vr16, vr17, vr18, vr19, vr20, vr21, vr22, vr23, vr24, vr25, vr26, vr27, vr28, vr29, vr30, vr31, vr32, vr33, vr34, opS, fpS, extO, okP, pack, nAl, allocA, shId, leaves, fillA, fillR, splice, Nat.reduceLT, Nat.reduceEqDiff, Nat.reduceLeDiff, Nat.reduceAdd, Nat.reduceSub, Nat.reduceMul, Int.reduceBEq, Int.reduceBNe, Int.reduceLT, Int.reduceLE, Int.reduceEq, reduceIte, reduceCtorEq]
      exact h2
  · rename_i v _
    obtain ⟨xs, hxs, h0, hb, ha, hK⟩ := h
    unfold dCall
    rw [enterE_mkE _ _ (by simp), ← hx_nil H]
    unfold cloC
    have hv : isE v = false ∧ isnilA 0 v = some false := by
      unfold vRows at hxs
      split at hxs
      · cases hxs; exact absurd rfl h0
      · cases hxs; exact absurd rfl h0
      · exact ⟨rfl, rfl⟩
      · exact ⟨rfl, rfl⟩
      · cases hxs
    have nq := fun H' K' => NQ_det (H := H') (neg := false) (K := K') hv.1 hv.2
    have hr : ∀ L, rowsOf (hx H L) v = some xs := fun L => rows_hx L (vRows_rows hxs)
    have hl : ¬ xs.length = 0 := fun e => h0 (List.eq_nil_of_length_eq_zero e)
    have d1 : (xs.length = 0) = False := eq_false hl
    have d2 : (xs.length * b ≤ 140737488355328) = True := eq_true hb
    simp only [vx, ↓vp, vq0, vq1, vq2, vq3, vr0, vr1, vr2, vr3, vr4, vr5, vr6, vr7, vr8, vr9, vr10, vr11, vr12, vr13, vr14, vr15, vr16, vr17, vr18, vr19, vr20, vr21, vr22, vr23, vr24, vr25, vr26, vr27, vr28, vr29, vr30, vr31, vr32, vr33, vr34, opS, fpS, extO, okP, pack, nAl, allocA, shId, leaves, fillA, fillR, splice, Nat.reduceLT, Nat.reduceEqDiff, Nat.reduceLeDiff, Nat.reduceAdd, Nat.reduceSub, Nat.reduceMul, Int.reduceBEq, Int.reduceBNe, Int.reduceLT, Int.reduceLE, Int.reduceEq, reduceIte, reduceCtorEq, AQ_det, appA_emp, nq, hr, ha, d1, d2]
    refine ⟨_, res_tmp (by decide), ?_⟩
    simp only [↓vp, vq0, vq1, vq2, vq3, vr0, vr1, vr2, vr3, vr4, vr5, vr6, vr7, vr8, vr9, vr10, vr11, vr12, vr13, vr14, vr15, vr16, vr17, vr18, vr19, vr20, vr21, vr22, vr23, vr24, vr25, vr26, vr27, vr28, vr29, vr30, vr31, vr32, vr33, vr34, opS, fpS, extO, okP, pack, nAl, allocA, shId, leaves, fillA, fillR, splice, Nat.reduceLT, Nat.reduceEqDiff, Nat.reduceLeDiff, Nat.reduceAdd, Nat.reduceSub, Nat.reduceMul, Int.reduceBEq, Int.reduceBNe, Int.reduceLT, Int.reduceLE, Int.reduceEq, reduceIte, reduceCtorEq]
    exact hK
  · exact h.elim
theorem ft0_ok : FTOk P (fun _ => none) := fun k d h => by cases h
/-- What Clone tells, where it does not matter whether an empty slice is nil. -/
def cloP (sz b : Nat) (args : List AV) (H : Heap) : Option (AV × Heap) :=
  match args with
  | [.sc (.slice none 0 0)] => some (.sc (.slice none 0 0), H)
  | [.lst []] => some (.emp, H.pad 1)
  | [v] => (vRows H H.next v).bind fun xs => if xs ≠ [] ∧ xs.length * b ≤ 140737488355328 ∧ allSz sz xs = true then some (.sl (H.next + 1) 0 xs.length, hx H [.dead, .row false sz xs]) else none
  | _ => none
theorem cloP_ok (hP : P.follows .mixedOrders = true) {k : FuncId} (hg : GoFn P k 8 [.tmp 2] (cloC sz b z)) : PrimOk P k (cloP sz b) := by
  intro args H H' r h m F w vs hI hv
  have go : ∀ K, dCall (fun _ => none) (fun _ => none) 8 [.tmp 2] (cloC sz b z) args H K → (callFunc k vs).run P w = .ok (.enter k vs) w ∧ Calls P k vs w fun en w' => ∃ r H', K r H' ∧ CallPost P m F H w r H' en w' :=
    fun K hK => dx_calls hP ft0_ok hg hI (κ := fun _ => none) (fun id cn h => by cases h) hv hK
  unfold cloP at h
  split at h
  · cases h
    obtain ⟨h1, h2⟩ := go (fun r2 H2 => r2 = .sc (.slice none 0 0) ∧ H2 = H) (by
      unfold dCall
      rw [enterE_mkE _ _ (by simp), ← hx_nil H]
      unfold cloC
      have nq := fun H' K' => NQ_det (H := H') (neg := false) (K := K') (v := .sc (.slice none 0 0)) rfl rfl
      simp only [vx, ↓vp, vq0, vq1, vq2, vq3, vr0, vr1, vr2, vr3, vr4, vr5, vr6, vr7, vr8, vr9, vr10, vr11, vr12, vr13, vr14, vr15, vr16, vr17, vr18, vr19, vr20, vr21, vr22, vr23, vr24, vr25, vr26, vr27, vr28, vr29, vr30, vr31, vr32, vr33, vr34, opS, fpS, extO, okP, pack, nAl, allocA, shId, leaves, fillA, fillR, splice, Nat.reduceLT, Nat.reduceEqDiff, Nat.reduceLeDiff, Nat.reduceAdd, Nat.reduceSub, Nat.reduceMul, Int.reduceBEq, Int.reduceBNe, Int.reduceLT, Int.reduceLE, Int.reduceEq, reduceIte, reduceCtorEq, AQ_det, nq]
      refine ⟨_, res_tmp (by decide), ?_⟩
      simp only [↓vp, vq0, vq1, vq2, vq3, vr0, vr1, vr2, vr3, vr4, vr5, vr6, vr7, vr8, vr9, vr10, vr11, vr12, vr13, vr14, vr15, vr16, vr17, vr18, vr19, vr20, vr21, vr22, vr23, vr24, vr25, vr26, vr27, vr28, vr29, vr30, vr31, vr32, vr33, vr34, opS, fpS, extO, okP, pack, nAl, allocA, shId, leaves, fillA, fillR, splice, Nat.reduceLT, Nat.reduceEqDiff, Nat.reduceLeDiff, Nat.reduceAdd, Nat.reduceSub, Nat.reduceMul, Int.reduceBEq, Int.reduceBNe, Int.reduceLT, Int.reduceLE, Int.reduceEq, reduceIte, reduceCtorEq])
    refine .inl ⟨h1, h2.mono fun en w' ⟨r2, H2, ⟨h3, h4⟩, hc⟩ => ?_⟩
    subst h3 h4
    exact hc
  · cases h
    obtain ⟨h1, h2⟩ := go (fun r2 H2 => (r2 = .sc (.slice none 0 0) ∧ H2 = H) ∨ (r2 = .emp ∧ H2 = H.put H.next .dead)) (clo_dx ⟨.inl ⟨rfl, rfl⟩, .inr ⟨rfl, rfl⟩⟩)
    refine .inl ⟨h1, h2.mono fun en w' ⟨r2, H2, hK, u, m', F', he, q1, q2, q3, q4⟩ => ?_⟩
    rcases hK with ⟨rfl, rfl⟩ | ⟨rfl, rfl⟩
    · obtain ⟨rfl, _⟩ := vr_sc q1
      exact ⟨_, m', F', he, .fz (.emp none), q2.pad 1, q3, ⟨q4.dom, by rw [Heap.next_pad]; omega⟩⟩
    · have e1 : H.put H.next .dead = H.pad 1 := by
        have := hx_put0 H [] .dead
        rw [hx_nil] at this
        rw [this]
        simp [hx, Heap.pad]
      rw [e1] at q2 q4
      exact ⟨_, m', F', he, q1, q2, q3, q4⟩
  · rename_i v _ _
    simp only [Option.bind_eq_some_iff] at h
    obtain ⟨xs, hxs, h⟩ := h
    split at h
    rotate_left
    · cases h
    rename_i hc
    cases h
    obtain ⟨h1, h2⟩ := go (fun r2 H2 => r2 = .sl (H.next + 1) 0 xs.length ∧ H2 = hx H [.dead, .row false sz xs]) (clo_dx (by
      unfold cloD
      split
      · rename_i e; cases e; cases hxs; exact absurd rfl hc.1
      · rename_i e; cases e; exact ⟨xs, hxs, hc.1, hc.2.1, hc.2.2, rfl, rfl⟩
      · rename_i e; exact e _ rfl))
    exact .inl ⟨h1, h2.mono fun en w' ⟨r2, H2, ⟨h3, h4⟩, hc⟩ => by rw [← h3, ← h4]; exact hc⟩
  · cases h
end
end Go.VI

set_option linter.unusedVariables false
set_option linter.unusedSimpArgs false
namespace Go.VI
def Sub (ft ft' : FT) : Prop := ∀ k d, ft k = some d → ft' k = some d
theorem pureV_sub {ft ft' : FT} (hs : Sub ft ft') {f : AV} {args : List AV} {ex : EX} {H : Heap} {r : AV × Heap} (h : callV ft ex f args H = some r) : pureV ft' f args = pureV ft f args := by
  unfold callV at h
  unfold pureV
  split at h
  · rename_i k first caps
    have : isPure ft' k = isPure ft k := by
      unfold isPure
      cases hk : ft k with
      | none => unfold callF at h; rw [hk] at h; cases h
      | some d => rw [hs k d hk]
    simp only [this]
  · rfl
  · cases h
theorem isExt_sub {ft ft' : FT} (hs : Sub ft ft') {f : AV} {args : List AV} {ex : EX} {H : Heap} {r : AV × Heap} (h : callV ft ex f args H = some r) (as' : List AV) : pureV ft' (.tup [f]) as' = pureV ft (.tup [f]) as' := by
  unfold callV at h
  split at h
  · rename_i k first caps
    have : isExt ft' k = isExt ft k := by
      unfold isExt
      cases hk : ft k with
      | none => unfold callF at h; rw [hk] at h; cases h
      | some d => rw [hs k d hk]
    simp only [pureV, this]
  · rfl
  · cases h
theorem isGo_sub {ft ft' : FT} (hs : Sub ft ft') {f : AV} (h : isGo ft f = true) : isGo ft' f = true := by
  unfold isGo at h ⊢
  split at h
  · rename_i k first caps
    cases hk : ft k with
    | none => rw [hk] at h; cases h
    | some d => rw [hs k d hk]; rw [hk] at h; exact h
  · cases h
theorem runs_le {cf cf' : CF} (h : CLe cf cf') {pv pv' : AV → List AV → FP} (hp : ∀ f args H r, cf f args H = some r → pv' f args = pv f args ∧ pv' (.tup [f]) args = pv (.tup [f]) args) : ∀ (os : List AOper) (nid : Nat) (e : Env) (H : Heap) (r : List FQ × Env × Heap), runs cf pv nid os e H = some r → runs cf' pv' nid os e H = some r
  | [], nid, e, H, r, hr => hr
  | o :: os, nid, e, H, r, hr => by
    simp only [runs, Option.bind_eq_some_iff, Option.map_eq_some_iff] at hr ⊢
    obtain ⟨p, hp1, q, hq, hr⟩ := hr
    refine ⟨p, oper_mono h hp1, q, runs_le h hp os _ _ _ _ hq, ?_⟩
    have : fqO pv' nid e o H p.2 = fqO pv nid e o H p.2 := by
      by_cases hw : wantA e o.guard = true
      · obtain ⟨d, op, g⟩ := o
        cases op with
        | call f args =>
          unfold oper at hp1
          split at hp1
          · rw [Option.map_eq_some_iff] at hp1
            obtain ⟨r1, hr1, _⟩ := hp1
            obtain ⟨a1, a2⟩ := hp _ _ _ _ hr1
            simp only [fqO, fpO, fpS, extO, a1, a2]
          · cases hp1
        | _ => rfl
      · rw [fqO_some (show fpO pv' nid e o = some (false, []) by unfold fpO; rw [if_neg hw]), fqO_some (show fpO pv nid e o = some (false, []) by unfold fpO; rw [if_neg hw])]
    rw [this]
    exact hr
theorem drawn_le {cf cf' : CF} (h : CLe cf cf') {pv pv' : AV → List AV → FP} (hp : ∀ f args H r, cf f args H = some r → pv' f args = pv f args ∧ pv' (.tup [f]) args = pv (.tup [f]) args) {os : List AOper} {prs : List (Nat × Nat)} {e : Env} {H : Heap} {r : Env × Heap} (hr : drawn cf pv os prs e H = some r) : drawn cf' pv' os prs e H = some r := by
  simp only [drawn, Option.bind_eq_some_iff] at hr ⊢
  obtain ⟨p, hp1, hr⟩ := hr
  exact ⟨p, runs_le h hp _ _ _ _ _ hp1, hr⟩
theorem callF_sub {ft ft' : FT} (hs : Sub ft ft') {ex ex' : EX} (h : ELe ex ex') {k : FuncId} {args : List AV} {H : Heap} {r : AV × Heap} (hr : callF ft ex k args H = some r) : callF ft' ex' k args H = some r := by
  refine callF_mono h ?_
  unfold callF at hr ⊢
  cases hk : ft k with
  | none => rw [hk] at hr; cases hr
  | some d => rw [hs k d hk]; rw [hk] at hr; exact hr
theorem callV_sub {ft ft' : FT} (hs : Sub ft ft') {ex ex' : EX} (h : ELe ex ex') : CLe (callV ft ex) (callV ft' ex') := by
  intro f args H r hr
  unfold callV at hr ⊢
  split at hr
  · exact callF_sub hs h hr
  · exact roundA_mono h hr
  · cases hr
theorem exec_sub {ft ft' : FT} (hs : Sub ft ft') : ∀ n, ELe (exec ft n) (exec ft' n) := by
  intro n
  induction n with
  | zero => intro c e H r h; simp [exec] at h
  | succ n ih =>
    intro c e H r h
    rw [exec.eq_def] at h ⊢
    simp only at h ⊢
    cases c with
    | skip => exact h
    | exit id => exact h
    | ret => exact h
    | stop => exact h
    | rangeF f ps asg body =>
      simp only at h ⊢
      split at h
      rotate_left
      · cases h
      rename_i hg
      rw [if_pos (isGo_sub hs hg)]
      simp only [Option.bind_eq_some_iff] at h ⊢
      obtain ⟨p, hp, hr⟩ := h
      exact ⟨p, callV_sub hs ih _ _ _ _ hp, hr⟩
    | region os draw prs =>
      simp only at h ⊢
      split at h
      · rename_i hd
        rw [if_pos hd]
        simp only [Option.map_eq_some_iff] at h ⊢
        obtain ⟨p, hp, hr⟩ := h
        exact ⟨p, drawn_le (callV_sub hs ih) (fun f args H r h => ⟨pureV_sub hs h, isExt_sub hs h _⟩) hp, hr⟩
      · rename_i hd
        rw [if_neg hd]
        simp only [Option.map_eq_some_iff] at h ⊢
        obtain ⟨p, hp, hr⟩ := h
        exact ⟨p, opers_mono (callV_sub hs ih) _ _ _ _ hp, hr⟩
    | seq a b =>
      simp only [Option.bind_eq_some_iff] at h ⊢
      obtain ⟨⟨x, e1, H1⟩, hp, hr⟩ := h
      refine ⟨(x, e1, H1), ih _ _ _ _ hp, ?_⟩
      cases x with
      | normal => exact ih _ _ _ _ hr
      | exit id => exact hr
      | ret => exact hr
    | cond o a b =>
      simp only [Option.bind_eq_some_iff] at h ⊢
      obtain ⟨t, ht, hr⟩ := h
      refine ⟨t, ht, ?_⟩
      cases t with
      | true => exact ih _ _ _ _ hr
      | false => exact ih _ _ _ _ hr
    | block id c =>
      simp only [Option.map_eq_some_iff] at h ⊢
      obtain ⟨p, hp, hr⟩ := h
      exact ⟨p, ih _ _ _ _ hp, hr⟩
    | loop c =>
      simp only [Option.bind_eq_some_iff] at h ⊢
      obtain ⟨⟨x, e1, H1⟩, hp, hr⟩ := h
      refine ⟨(x, e1, H1), ih _ _ _ _ hp, ?_⟩
      cases x with
      | normal => exact ih _ _ _ _ hr
      | exit id => exact hr
      | ret => exact hr
/-- A TABLE OF WHICH MORE IS KNOWN TELLS THE SAME. -/
theorem callL_sub {ft ft' : FT} (hs : Sub ft ft') {f : AV} {args : List AV} {H : Heap} {r : AV × Heap} (h : callL ft f args H = some r) : callL ft' f args H = some r := by
  obtain ⟨n, hn⟩ := callL_some.1 h
  exact callL_some.2 ⟨n, callV_sub hs (exec_sub hs n) _ _ _ _ hn⟩
/-- A call of a function with a body, of finished things alone, as a primitive. -/
noncomputable def goP (ft : FT) (k : FuncId) (args : List AV) : Option AV := if closedL args = true then (callL ft (.fn (.func k) [] []) args Heap.empty).map (·.1) else none
theorem goP_ok {P : Program} (hP : P.follows .mixedOrders = true) {ft : FT} (hft : FTOk P ft) {k : FuncId} (hk : ∃ n rs body, ft k = some (.go true n rs body)) : PPrimOk P k (goP ft k) := by
  intro args r h m F H w vs hI hl hv
  unfold goP at h
  split at h
  rotate_left
  · cases h
  rename_i hc
  simp only [Option.map_eq_some_iff] at h
  obtain ⟨⟨r', H'⟩, h, rfl⟩ := h
  obtain ⟨n, hn⟩ := callL_some.1 h
  obtain ⟨nt, rs, body, hk⟩ := hk
  have hpv : pureV ft (.fn (.func k) [] []) args = some (false, []) := by
    unfold pureV isPure
    simp only [List.nil_append, List.append_nil, hk, if_true, sids_closed hc]
    rfl
  have hcp := (execs_next (ft := ft) n).2
  have h3 : callV ft (exec ft n) (.fn (.func k) [] []) args H = some (r', H) := by
    obtain ⟨H3, h3, _, h4⟩ := hcp.1 _ _ _ _ _ _ _ hpv hn H (fun _ h => by cases h)
    obtain ⟨_, rfl⟩ := h4 rfl
    exact h3
  have h4 : callF ft (exec ft n) k args H = some (r', H) := by simpa [callV] using h3
  have hcf : CfOk P (callV ft (exec ft n)) := calls_of hft (fun c ac hc e e' H H' x h ro hro b0 m F w a hs hb0 hd => (exec_sound hP hft n c ac hc e e' H H' x h ro hro b0 m F w a hs hb0 hd).1)
  rcases hcf _ _ H H r' h3 m F w (.func (.func k) #[] #[]) vs hI (.fz (.fn rfl rfl (by simp) (by simp))) ⟨hl, fun i c hc => .fz (hv i c hc)⟩ with ⟨k', f', c', he, hcase⟩ | ⟨_, _, _, _, _, he, _⟩
  rotate_left
  · cases he
  cases he
  simp only [Array.empty_append, Array.append_empty] at hcase
  exact hcase
end Go.VI

set_option linter.unusedVariables false
set_option linter.unusedSimpArgs false
namespace Go.VI
/-- What Clone tells, where nobody writes it. -/
def cloF (sz b : Nat) (args : List AV) : Option AV :=
  match args with
  | [.lst []] => some (.lst [])
  | [.lst ((c :: cs) :: r)] => if (r.length + 1) * b ≤ 140737488355328 ∧ allSz sz ((c :: cs) :: r) = true then some (.lst ((c :: cs) :: r)) else none
  | _ => none
theorem cloF_sl {ft : FT} {sz b : Nat} {z : List AV} : SlD ft 8 [.tmp 2] (cloC sz b z) (cloF sz b) := by
  intro args r h
  unfold cloF at h
  split at h
  · cases h
    exact clo_dx (sz := sz) (b := b) ⟨⟨_, rfl⟩, ⟨_, rfl⟩⟩
  · split at h
    rotate_left
    · cases h
    rename_i c cs rr hc
    cases h
    refine clo_dx (sz := sz) (b := b) ⟨_, rfl, by simp, by simpa using hc.1, hc.2, ?_⟩
    have e := frz_sl 23 (hx Heap.empty [.dead, .row false sz ((c :: cs) :: rr)]) 1 0 (List.length ((c :: cs) :: rr))
    have hg : (hx Heap.empty [.dead, .row false sz ((c :: cs) :: rr)]).get 1 = some (.row false sz ((c :: cs) :: rr)) := rfl
    rw [hg] at e
    simp only [Nat.zero_add, Nat.le_refl, if_true, List.drop_zero, List.take_length] at e
    exact ⟨_, e⟩
  · cases h
theorem cloF_ok {P : Program} (hP : P.follows .mixedOrders = true) {k : FuncId} {sz b : Nat} {z : List AV} (hg : GoFn P k 8 [.tmp 2] (cloC sz b z)) : PPrimOk P k (cloF sz b) := slD_ok hP ft0_ok hg cloF_sl
end Go.VI

set_option linter.unusedVariables false
set_option linter.unusedSimpArgs false
namespace Go.VI
/-- Two whole numbers, of which the first is small. -/
abbrev SR := { p : Int × Int // 0 ≤ p.1 ∧ p.1 ≤ 1000000 }
instance srInh : Inhabited SR := ⟨⟨(0, 0), by decide⟩⟩
def srC (x : SR) : List AV := [.sc (.int .i64 x.1.1), .sc (.int .i64 x.1.2)]
def srCf (x y : SR) : Int := x.1.1 - y.1.1
def srLt (x y : SR) : Bool := decide (srCf x y < 0)
def srOf : List AV → Option SR
  | [.sc (.int .i64 a), .sc (.int .i64 b)] => if h : 0 ≤ a ∧ a ≤ 1000000 then some ⟨(a, b), h⟩ else none
  | _ => none
theorem srOf_some {r : List AV} {x : SR} (h : srOf r = some x) : r = srC x := by
  unfold srOf at h
  split at h
  · split at h
    · cases h; rfl
    · cases h
  · cases h
def srsOf : List (List AV) → Option (List SR)
  | [] => some []
  | r :: rs => (srOf r).bind fun x => (srsOf rs).map fun l => x :: l
theorem srsOf_some : ∀ {rs : List (List AV)} {l : List SR}, srsOf rs = some l → rs = l.map srC
  | [], l, h => by cases h; rfl
  | r :: rs, l, h => by
    simp only [srsOf, Option.bind_eq_some_iff, Option.map_eq_some_iff] at h
    obtain ⟨x, hx, l', hl, rfl⟩ := h
    rw [srOf_some hx, srsOf_some hl]
    rfl
theorem srOf_C (x : SR) : srOf (srC x) = some x := by
  unfold srOf srC
  simp [x.2]
theorem srsOf_map : ∀ l : List SR, srsOf (l.map srC) = some l
  | [] => rfl
  | x :: l => by simp only [List.map_cons, srsOf, srOf_C, srsOf_map l, Option.bind_some, Option.map_some]
noncomputable def sortL (l : List SR) : List SR := (Sort.pdq srLt l.toArray 0 l.length (Lib.bitLen l.length) true true).toList
theorem srLt_t {x y : SR} : srLt x y = true ↔ x.1.1 < y.1.1 := by
  unfold srLt srCf
  rw [decide_eq_true_iff]
  omega
theorem srLt_f {x y : SR} : srLt x y = false ↔ y.1.1 ≤ x.1.1 := by
  unfold srLt srCf
  rw [decide_eq_false_iff_not]
  omega
theorem srSWO : Sort.SWO srLt where
  irrefl x := srLt_f.2 (Int.le_refl _)
  trans x y z h1 h2 := srLt_t.2 (Int.lt_trans (srLt_t.1 h1) (srLt_t.1 h2))
  ntrans x y z h1 h2 := srLt_f.2 (Int.le_trans (srLt_f.1 h2) (srLt_f.1 h1))
theorem sortL_len (l : List SR) : (sortL l).length = l.length := by
  have h := (Sort.pdq_sorts srLt srSWO l.toArray 0 l.length (Lib.bitLen l.length) true true (Nat.zero_le _) (by simp) (Or.inl rfl)).1.1
  simpa [sortL] using h
theorem sortL_perm (l : List SR) : (sortL l).Perm l := by
  have h := (Sort.pdq_sorts srLt srSWO l.toArray 0 l.length (Lib.bitLen l.length) true true (Nat.zero_le _) (by simp) (Or.inl rfl)).1
  have h3 := h.2.2
  have hs := h.1
  simp at hs
  have e1 : (Sort.pdq srLt l.toArray 0 l.length (Lib.bitLen l.length) true true).extract 0 l.length = Sort.pdq srLt l.toArray 0 l.length (Lib.bitLen l.length) true true := by
    have : ∀ (a : Array SR), a.size = l.length → a.extract 0 l.length = a := fun a ha => by rw [← ha]; simp
    exact this _ hs
  rw [e1] at h3
  simpa [sortL] using h3
theorem sortL_sorted (l : List SR) : ∀ i j (hi : i < j) (hj : j < (sortL l).length), ((sortL l)[i]'(by omega)).1.1 ≤ (sortL l)[j].1.1 := by
  intro i j hi hj
  have h := (Sort.pdq_sorts srLt srSWO l.toArray 0 l.length (Lib.bitLen l.length) true true (Nat.zero_le _) (by simp) (Or.inl rfl)).2
  have hl := sortL_len l
  have := h i j (Nat.zero_le _) hi (by omega)
  rw [srLt_f] at this
  have hs : (Sort.pdq srLt l.toArray 0 l.length (Lib.bitLen l.length) true true).size = (sortL l).length := by simp [sortL]
  have gi : ∀ k (hk : k < (sortL l).length), (Sort.pdq srLt l.toArray 0 l.length (Lib.bitLen l.length) true true)[k]! = (sortL l)[k] := fun k hk => by
    rw [getElem!_pos _ k (by omega)]
    simp [sortL]
  rw [gi i (by omega), gi j hj] at this
  exact this
noncomputable def sortP (g : FuncId) (args : List AV) (H : Heap) : Option (AV × Heap) :=
  match args with
  | [.sl id 0 len, .fn (.func k) [] []] => if k = g then match H.get id with
      | some (.row false 2 rows) => if len = rows.length ∧ len ≤ 1000000 then (srsOf rows).map fun l => (.tup [], H.set id (.row false 2 ((sortL l).map srC))) else none
      | _ => none
    else none
  | [.sc (.slice none 0 0), .fn (.func k) [] []] => if k = g then some (.tup [], H) else none
  | [.emp, .fn (.func k) [] []] => if k = g then some (.tup [], H) else none
  | _ => none
end Go.VI

set_option linter.unusedVariables false
set_option linter.unusedSimpArgs false
namespace Go.VI
theorem sids_emp : sids [.emp] = some [] := rfl
theorem lenV_emp (H : Heap) : lenV H 0 .emp = some (.sc (.int .i64 (0 : Int)), H) := rfl
theorem frz_emp (n : Nat) (H : Heap) : frz (n + 1) H .emp = some (.lst [], H) := rfl
theorem cells_emp : AV.cells .emp = [.emp] := rfl
theorem one_emp : AV.one .emp = true := rfl
set_option linter.defProp false in
def vemp := And.intro @sids_emp <| And.intro @lenV_emp <| And.intro @frz_emp <| And.intro @cells_emp <| And.intro @one_emp @appA_emp
/-- Clone of a finished row, wherever it is called. -/
def ecloP (sz b : Nat) (args : List AV) (n : Nat) : Option (AV × List Blk) :=
  match args with
  | [.sc (.slice none 0 0)] => some (.sc (.slice none 0 0), [])
  | [.lst []] => some (.emp, [.dead])
  | [.lst ((c :: cs) :: r)] => if ((c :: cs) :: r).length * b ≤ 140737488355328 ∧ allSz sz ((c :: cs) :: r) = true then some (.sl (n + 1) 0 ((c :: cs) :: r).length, [.dead, .row false sz ((c :: cs) :: r)]) else none
  | _ => none
theorem ecloP_ok {P : Program} (hP : P.follows .mixedOrders = true) {k : FuncId} {sz b : Nat} {z : List AV} (hg : GoFn P k 8 [.tmp 2] (cloC sz b z)) : PrimOk P k fun args H => (ecloP sz b args H.next).map fun (r, L) => (r, ⟨H.bs ++ L⟩) := by
  intro args H H' r h
  refine cloP_ok hP hg args H H' r ?_
  simp only [Option.map_eq_some_iff, Prod.mk.injEq] at h
  obtain ⟨⟨r1, L⟩, h1, rfl, rfl⟩ := h
  unfold ecloP at h1
  split at h1
  · cases h1
    show some (_, H) = some (_, _)
    simp
  · cases h1
    rfl
  · rename_i c cs r
    split at h1
    rotate_left
    · cases h1
    rename_i hc
    cases h1
    unfold cloP
    show ((vRows H H.next (.lst ((c :: cs) :: r))).bind _) = _
    rw [show vRows H H.next (.lst ((c :: cs) :: r)) = some ((c :: cs) :: r) from rfl, Option.bind_some, if_pos ⟨by simp, hc⟩]
    rfl
  · cases h1
/-- What a call of finished things tells, if it is a scalar; the heap as it was. -/
def roP (p : List AV → Option AV) (args : List AV) (H : Heap) : Option (AV × Heap) :=
  (frzCells H args).bind fun q => (p q.1).bind fun r => match r with
    | .sc v => some (.sc v, H)
    | _ => none
theorem Inv.same {P : Program} {m : Mp} {F : Fz} {H : Heap} {w w' : World} (h : Inv P m F H w) (hs : w.heap.size ≤ w'.heap.size) (hb : ∀ b, b < w.heap.size → w'.heap[b]? = w.heap[b]?) : Inv P m F H w' :=
  h.next (MLe.refl m) (FLe.refl F) (fun b o v hv => by
    rw [cell_of_heap (hb b (h.fz_lt hv))]
    exact h.fz b o v hv) (fun j mj hj => ⟨(h.lt j mj hj).1, by have := (h.lt j mj hj).2; omega⟩)
    (fun j mj B hj hB => .inl ⟨hj, hB, hb _ (h.lt j mj hj).2, fun _ _ hv => hv⟩) h.inj
theorem roP_ok {P : Program} {k : FuncId} {p : List AV → Option AV} (hp : PPrimOk P k p) : PrimOk P k (roP p) := by
  intro args H H' r h m F w vs hI hv
  unfold roP at h
  simp only [Option.bind_eq_some_iff] at h
  obtain ⟨⟨cs, H1⟩, h1, r0, h2, h⟩ := h
  have hr : ∃ v, r0 = .sc v ∧ r = .sc v ∧ H' = H := by
    split at h
    · cases h; exact ⟨_, rfl, rfl, rfl⟩
    · cases h
  obtain ⟨v, rfl, rfl, rfl⟩ := hr
  obtain ⟨F1, o1, hf⟩ := (frz_sound FZ).2 H' H1 F args cs (fun i => vs.getD i undef) h1 hI (fun i c hc => hv.val i c hc)
  have hl : cs.length = args.length := (frzL_one h1).1
  have hI0 : Inv P (fun _ => none) F1 Heap.empty w :=
    by
    refine ⟨o1.inv.fz, ?_, ?_, ?_⟩
    · intro id mb h; cases h
    · intro id mb B h; cases h
    · intro i j mi mj h; cases h
  have fin : ∀ en w', CallPost P (fun _ => none) F1 Heap.empty w (.sc v) Heap.empty en w' → CallPost P m F H' w (.sc v) H' en w' := by
    intro en w' ⟨u, m', F', he, q1, q2, q3, q4⟩
    obtain ⟨rfl, hs⟩ := vr_sc q1
    have hb : ∀ b, b < w.heap.size → w'.heap[b]? = w.heap[b]? := fun b hb => q3.blk b hb (by intro id mb h; cases h)
    exact ⟨_, m, F, he, .fz (.sc hs), hI.same q3.sz hb, ⟨MLe.refl m, FLe.refl F, q3.sz, q3.tape, q3.os, q3.out, fun b h _ => hb b h, fun _ _ h => .inl h, fun _ _ _ h => .inl h⟩, Grew.refl m H'⟩
  rcases hp cs (.sc v) h2 (fun _ => none) F1 Heap.empty w vs hI0 (by rw [hl]; exact hv.len) hf with ⟨c1, c2⟩ | ⟨u, w', c1, c2⟩
  · exact .inl ⟨c1, c2.mono fun en w' hc => fin en w' hc⟩
  · exact .inr ⟨u, w', c1, fin _ _ c2⟩
end Go.VI

set_option linter.unusedVariables false
set_option maxRecDepth 100000
namespace Go.VI
def c17L0 : ACode := (.seq (.region [⟨(some 42), (.bin .lss 3 (.tmp 41) (.tmp 40)), none⟩] false []) (.seq (.cond (.tmp 42) .skip (.exit 0)) (.seq (.block 1 (.seq (.region [⟨(some 43), (.iaddr none 5 (.tmp 39) (.tmp 41)), none⟩, ⟨(some 44), (.load true 5 (.tmp 43)), none⟩, ⟨(some 10), (.alloc [(.sc (.int .i64 0)), (.sc (.int .i64 0)), (.sc (.int .i64 0)), (.sc (.int .i64 0)), (.sc (.int .i64 0))]), none⟩, ⟨none, (.store 5 (.tmp 10) (.tmp 44)), none⟩] false []) (.seq (.seq (.region [⟨(some 45), (.faddr 0 (.tmp 10)), none⟩, ⟨(some 46), (.load false 1 (.tmp 45)), none⟩] false []) (.block 2 (.seq (.region [⟨(some 48), (.bin .eql 3 (.tmp 46) (.const (.int .i64 0))), none⟩, ⟨(some 47), (.mov (.tmp 48)), none⟩] false []) (.cond (.tmp 47) (.region [⟨(some 49), (.mov (.tmp 7)), none⟩, ⟨(some 50), (.faddr 2 (.tmp 10)), none⟩, ⟨(some 51), (.load false 1 (.tmp 50)), none⟩, ⟨(some 52), (.call (.func 61) [(.tmp 49), (.tmp 51)]), none⟩] false []) (.seq (.region [⟨(some 54), (.bin .eql 3 (.tmp 46) (.const (.int .i64 4))), none⟩, ⟨(some 53), (.mov (.tmp 54)), none⟩] false []) (.cond (.tmp 53) (.region [⟨(some 55), (.mov (.tmp 7)), none⟩, ⟨(some 56), (.faddr 2 (.tmp 10)), none⟩, ⟨(some 57), (.load false 1 (.tmp 56)), none⟩, ⟨(some 58), (.call (.func 72) [(.tmp 55), (.tmp 57)]), none⟩] false []) (.seq (.region [⟨(some 60), (.bin .eql 3 (.tmp 46) (.const (.int .i64 1))), none⟩, ⟨(some 59), (.mov (.tmp 60)), none⟩] false []) (.cond (.tmp 59) (.region [⟨(some 61), (.mov (.tmp 7)), none⟩, ⟨(some 62), (.faddr 1 (.tmp 10)), none⟩, ⟨(some 63), (.load false 1 (.tmp 62)), none⟩, ⟨(some 64), (.faddr 3 (.tmp 10)), none⟩, ⟨(some 65), (.load true 2 (.tmp 64)), none⟩, ⟨(some 66), (.call (.func 64) [(.tmp 61), (.tmp 63), (.tmp 65)]), none⟩] false []) (.seq (.region [⟨(some 68), (.bin .eql 3 (.tmp 46) (.const (.int .i64 2))), none⟩, ⟨(some 67), (.mov (.tmp 68)), none⟩] false []) (.cond (.tmp 67) (.region [⟨(some 69), (.mov (.tmp 7)), none⟩, ⟨(some 70), (.faddr 1 (.tmp 10)), none⟩, ⟨(some 71), (.load false 1 (.tmp 70)), none⟩, ⟨(some 72), (.faddr 2 (.tmp 10)), none⟩, ⟨(some 73), (.load false 1 (.tmp 72)), none⟩, ⟨(some 74), (.call (.func 65) [(.tmp 69), (.tmp 71), (.tmp 73)]), none⟩] false []) .skip)))))))))) (.seq (.seq (.region [⟨(some 75), (.faddr 1 (.tmp 10)), none⟩, ⟨(some 76), (.load false 1 (.tmp 75)), none⟩, ⟨(some 77), (.bin .lss 3 (.tmp 76) (.const (.int .i64 0))), none⟩] false []) (.cond (.tmp 77) (.exit 1) .skip)) (.seq (.region [⟨(some 79), (.mov (.tmp 7)), none⟩, ⟨(some 80), (.faddr 1 (.tmp 10)), none⟩, ⟨(some 81), (.load false 1 (.tmp 80)), none⟩, ⟨(some 82), (.call (.func 74) [(.tmp 79), (.tmp 81)]), none⟩, ⟨(some 83), (.faddr 1 (.tmp 10)), none⟩, ⟨(some 84), (.load false 1 (.tmp 83)), none⟩, ⟨(some 85), (.mov (.tmp 7)), none⟩, ⟨(some 86), (.call (.func 59) [(.tmp 85)]), none⟩, ⟨(some 87), (.iaddr (some 3) 1 (.tmp 4) (.const (.int .i64 2))), none⟩, ⟨(some 88), (.load false 1 (.tmp 87)), none⟩, ⟨(some 89), (.call (.func 57) [(.tmp 82), (.tmp 84), (.tmp 86), (.tmp 88)]), none⟩, ⟨(some 78), (.mov (.tmp 89)), none⟩, ⟨(some 90), (.ext (.tmp 78) 0), none⟩, ⟨(some 91), (.ext (.tmp 78) 1), none⟩, ⟨(some 11), (.mov (.tmp 90)), none⟩, ⟨(some 12), (.mov (.tmp 91)), none⟩] true [(3, 5), (5, 7), (3, 8), (7, 8), (3, 9), (7, 9)]) (.seq (.seq (.region [⟨(some 92), (.mov (.tmp 12)), none⟩, ⟨(some 93), (.bin .neq 95 (.tmp 92) (.const (.int .i64 0))), none⟩, ⟨(some 94), (.mov (.tmp 93)), none⟩, ⟨(some 95), (.mov (.tmp 11)), (some ((some 94), false))⟩, ⟨(some 96), (.isnil false 1 (.tmp 95)), (some ((some 94), false))⟩, ⟨(some 97), (.pick (.tmp 94) (.const (.bool true)) (.tmp 96)), none⟩, ⟨(some 98), (.mov (.tmp 97)), none⟩, ⟨(some 99), (.mov (.tmp 11)), (some ((some 98), false))⟩, ⟨(some 100), (.call (.func 60) [(.tmp 99)]), (some ((some 98), false))⟩, ⟨(some 101), (.call (.func 42) [(.tmp 100)]), (some ((some 98), false))⟩, ⟨(some 102), (.mov (.tmp 11)), (some ((some 98), false))⟩, ⟨(some 103), (.call (.func 63) [(.tmp 102)]), (some ((some 98), false))⟩, ⟨(some 104), (.call (.func 42) [(.tmp 103)]), (some ((some 98), false))⟩, ⟨(some 105), (.bin .add 3 (.tmp 101) (.tmp 104)), (some ((some 98), false))⟩, ⟨(some 106), (.mov (.tmp 7)), (some ((some 98), false))⟩, ⟨(some 107), (.call (.func 60) [(.tmp 106)]), (some ((some 98), false))⟩, ⟨(some 108), (.call (.func 42) [(.tmp 107)]), (some ((some 98), false))⟩, ⟨(some 109), (.mov (.tmp 7)), (some ((some 98), false))⟩, ⟨(some 110), (.call (.func 63) [(.tmp 109)]), (some ((some 98), false))⟩, ⟨(some 111), (.call (.func 42) [(.tmp 110)]), (some ((some 98), false))⟩, ⟨(some 112), (.bin .add 3 (.tmp 108) (.tmp 111)), (some ((some 98), false))⟩, ⟨(some 113), (.bin .neq 3 (.tmp 105) (.tmp 112)), (some ((some 98), false))⟩, ⟨(some 114), (.pick (.tmp 98) (.const (.bool true)) (.tmp 113)), none⟩] false []) (.cond (.tmp 114) (.seq (.region [⟨(some 6), (.mov (.const (.bool false))), none⟩] false []) .ret) .skip)) (.seq (.region [⟨(some 115), (.mov (.tmp 11)), none⟩, ⟨(some 116), (.call (.func 60) [(.tmp 115)]), none⟩, ⟨(some 117), (.mov (.tmp 11)), none⟩, ⟨(some 118), (.call (.func 63) [(.tmp 117)]), none⟩, ⟨(some 119), (.call (.func 52) [(.tmp 116), (.tmp 118)]), none⟩, ⟨(some 120), (.call (.func 62) [(.tmp 119)]), none⟩, ⟨(some 121), (.mov (.tmp 7)), none⟩, ⟨(some 122), (.call (.func 60) [(.tmp 121)]), none⟩, ⟨(some 123), (.mov (.tmp 7)), none⟩, ⟨(some 124), (.call (.func 63) [(.tmp 123)]), none⟩, ⟨(some 125), (.call (.func 52) [(.tmp 122), (.tmp 124)]), none⟩, ⟨(some 126), (.call (.func 62) [(.tmp 125)]), none⟩, ⟨(some 127), (.call (.func 45) [(.tmp 120), (.tmp 126)]), none⟩, ⟨(some 128), (.un .not (.tmp 127)), none⟩, ⟨(some 129), (.mov (.tmp 128)), none⟩, ⟨(some 130), (.mov (.tmp 11)), (some ((some 129), false))⟩, ⟨(some 131), (.call (.func 63) [(.tmp 130)]), (some ((some 129), false))⟩, ⟨(some 132), (.call (.func 40) [(.tmp 131)]), (some ((some 129), false))⟩, ⟨(some 133), (.un .not (.tmp 132)), (some ((some 129), false))⟩, ⟨(some 134), (.pick (.tmp 129) (.const (.bool true)) (.tmp 133)), none⟩] false []) (.cond (.tmp 134) (.seq (.region [⟨(some 6), (.mov (.const (.bool false))), none⟩] false []) .ret) .skip)))))))) (.region [⟨(some 135), (.bin .add 3 (.tmp 41) (.const (.int .i64 1))), none⟩, ⟨(some 41), (.mov (.tmp 135)), none⟩] false []))))
def c17R1 : ACode := (.seq (.region [⟨(some 136), (.call (.func 56) []), none⟩, ⟨(some 6), (.mov (.tmp 136)), none⟩] false []) .ret)
def c17 : ACode := (.seq (.region [⟨(some 3), (.box 2 (.tmp 0)), none⟩, ⟨(some 4), (.box 3 (.tmp 1)), none⟩, ⟨(some 6), (.mov (.const (.bool false))), none⟩] false []) (.seq (.seq (.region [⟨(some 13), (.load true 2 (.tmp 3)), none⟩, ⟨(some 14), (.iaddr (some 3) 1 (.tmp 4) (.const (.int .i64 1))), none⟩, ⟨(some 15), (.load false 1 (.tmp 14)), none⟩, ⟨(some 16), (.mov (.tmp 2)), none⟩, ⟨(some 17), (.call (.func 55) [(.tmp 13), (.tmp 15), (.tmp 16)]), none⟩, ⟨(some 18), (.un .not (.tmp 17)), none⟩] false []) (.cond (.tmp 18) (.seq (.region [⟨(some 19), (.call (.func 56) []), none⟩, ⟨(some 6), (.mov (.tmp 19)), none⟩] false []) .ret) .skip)) (.seq (.region [⟨(some 21), (.load true 2 (.tmp 3)), none⟩, ⟨(some 22), (.call (.func 58) [(.tmp 21)]), none⟩, ⟨(some 23), (.iaddr (some 3) 1 (.tmp 4) (.const (.int .i64 0))), none⟩, ⟨(some 24), (.load false 1 (.tmp 23)), none⟩, ⟨(some 25), (.iaddr (some 3) 1 (.tmp 4) (.const (.int .i64 1))), none⟩, ⟨(some 26), (.load false 1 (.tmp 25)), none⟩, ⟨(some 27), (.iaddr (some 3) 1 (.tmp 4) (.const (.int .i64 2))), none⟩, ⟨(some 28), (.load false 1 (.tmp 27)), none⟩, ⟨(some 29), (.call (.func 57) [(.tmp 22), (.tmp 24), (.tmp 26), (.tmp 28)]), none⟩, ⟨(some 20), (.mov (.tmp 29)), none⟩, ⟨(some 30), (.ext (.tmp 20) 0), none⟩, ⟨(some 31), (.ext (.tmp 20) 1), none⟩, ⟨(some 7), (.mov (.tmp 30)), none⟩, ⟨(some 8), (.mov (.tmp 31)), none⟩] true [(1, 2), (1, 3), (1, 4), (1, 5), (1, 6), (1, 7)]) (.seq (.seq (.region [⟨(some 32), (.mov (.tmp 8)), none⟩, ⟨(some 33), (.bin .neq 95 (.tmp 32) (.const (.int .i64 0))), none⟩, ⟨(some 34), (.mov (.tmp 33)), none⟩, ⟨(some 35), (.mov (.tmp 7)), (some ((some 34), false))⟩, ⟨(some 36), (.isnil false 1 (.tmp 35)), (some ((some 34), false))⟩, ⟨(some 37), (.pick (.tmp 34) (.const (.bool true)) (.tmp 36)), none⟩] false []) (.cond (.tmp 37) (.seq (.region [⟨(some 38), (.call (.func 56) []), none⟩, ⟨(some 6), (.mov (.tmp 38)), none⟩] false []) .ret) .skip)) (.seq (.seq (.region [⟨(some 39), (.mov (.tmp 2)), none⟩, ⟨(some 40), (.len 0 (.tmp 39)), none⟩, ⟨(some 41), (.mov (.const (.int .i64 0))), none⟩] false []) (.block 0 (.loop c17L0))) c17R1)))))
def r17 : List ARes := [(.tmp 6)]
def c40L0 : ACode := (.seq (.region [⟨(some 8), (.bin .lss 3 (.tmp 7) (.tmp 6)), none⟩] false []) (.seq (.cond (.tmp 8) .skip (.exit 0)) (.seq (.block 1 (.seq (.region [⟨(some 9), (.mov (.tmp 7)), none⟩, ⟨(some 10), (.iaddr none 2 (.tmp 5) (.tmp 7)), none⟩, ⟨(some 11), (.load true 2 (.tmp 10)), none⟩, ⟨(some 4), (.alloc [(.sc (.int .i64 0)), (.sc (.int .i64 0))]), none⟩, ⟨(some 3), (.mov (.tmp 9)), none⟩, ⟨none, (.store 2 (.tmp 4) (.tmp 11)), none⟩] false []) (.seq (.region [⟨(some 12), (.load true 2 (.tmp 4)), none⟩, ⟨(some 13), (.call (.func 106) [(.tmp 12)]), none⟩, ⟨(some 14), (.un .not (.tmp 13)), none⟩, ⟨(some 15), (.mov (.tmp 14)), none⟩, ⟨(some 16), (.mov (.tmp 3)), (some ((some 15), false))⟩, ⟨(some 17), (.bin .gtr 3 (.tmp 16) (.const (.int .i64 0))), (some ((some 15), false))⟩, ⟨(some 18), (.mov (.tmp 17)), (some ((some 15), false))⟩, ⟨(some 19), (.faddr 0 (.tmp 4)), (some ((some 18), true))⟩, ⟨(some 20), (.load false 1 (.tmp 19)), (some ((some 18), true))⟩, ⟨(some 21), (.mov (.tmp 0)), (some ((some 18), true))⟩, ⟨(some 22), (.mov (.tmp 3)), (some ((some 18), true))⟩, ⟨(some 23), (.bin .sub 3 (.tmp 22) (.const (.int .i64 1))), (some ((some 18), true))⟩, ⟨(some 24), (.iaddr none 2 (.tmp 21) (.tmp 23)), (some ((some 18), true))⟩, ⟨(some 25), (.load true 2 (.tmp 24)), (some ((some 18), true))⟩, ⟨(some 26), (.call (.func 107) [(.tmp 25)]), (some ((some 18), true))⟩, ⟨(some 27), (.bin .leq 3 (.tmp 20) (.tmp 26)), (some ((some 18), true))⟩, ⟨(some 28), (.pick (.tmp 18) (.tmp 27) (.const (.bool false))), (some ((some 15), false))⟩, ⟨(some 29), (.pick (.tmp 15) (.const (.bool true)) (.tmp 28)), none⟩] true [(8, 14)]) (.cond (.tmp 29) (.seq (.region [⟨(some 2), (.mov (.const (.bool false))), none⟩] false []) .ret) .skip)))) (.region [⟨(some 30), (.bin .add 3 (.tmp 7) (.const (.int .i64 1))), none⟩, ⟨(some 7), (.mov (.tmp 30)), none⟩] false []))))
def c40R1 : ACode := (.seq (.region [⟨(some 2), (.mov (.const (.bool true))), none⟩] false []) .ret)
def c40 : ACode := (.seq (.region [⟨(some 2), (.mov (.const (.bool false))), none⟩] false []) (.seq (.seq (.region [⟨(some 5), (.mov (.tmp 0)), none⟩, ⟨(some 6), (.len 0 (.tmp 5)), none⟩, ⟨(some 7), (.mov (.const (.int .i64 0))), none⟩] false []) (.block 0 (.loop c40L0))) c40R1))
def r40 : List ARes := [(.tmp 2)]
def c42L0 : ACode := (.seq (.region [⟨(some 10), (.bin .lss 3 (.tmp 9) (.tmp 8)), none⟩] false []) (.seq (.cond (.tmp 10) .skip (.exit 0)) (.seq (.block 1 (.seq (.region [⟨(some 11), (.iaddr none 2 (.tmp 7) (.tmp 9)), none⟩, ⟨(some 12), (.load true 2 (.tmp 11)), none⟩, ⟨(some 5), (.alloc [(.sc (.int .i64 0)), (.sc (.int .i64 0))]), none⟩, ⟨none, (.store 2 (.tmp 5) (.tmp 12)), none⟩] false []) (.region [⟨(some 13), (.mov (.tmp 3)), none⟩, ⟨(some 14), (.faddr 1 (.tmp 5)), none⟩, ⟨(some 15), (.load false 1 (.tmp 14)), none⟩, ⟨(some 16), (.bin .add 3 (.tmp 13) (.tmp 15)), none⟩, ⟨(some 3), (.mov (.tmp 16)), none⟩] false []))) (.region [⟨(some 17), (.bin .add 3 (.tmp 9) (.const (.int .i64 1))), none⟩, ⟨(some 9), (.mov (.tmp 17)), none⟩] false []))))
def c42R1 : ACode := (.seq (.region [⟨(some 18), (.mov (.tmp 3)), none⟩, ⟨(some 2), (.mov (.tmp 18)), none⟩] false []) .ret)
def c42 : ACode := (.seq (.region [⟨(some 2), (.mov (.const (.int .i64 0))), none⟩] false []) (.seq (.region [⟨(some 3), (.mov (.const (.int .i64 0))), none⟩] false []) (.seq (.seq (.region [⟨(some 6), (.mov (.tmp 0)), none⟩, ⟨(some 7), (.call (.func 105) [(.tmp 6)]), none⟩, ⟨(some 8), (.len 0 (.tmp 7)), none⟩, ⟨(some 9), (.mov (.const (.int .i64 0))), none⟩] false []) (.block 0 (.loop c42L0))) c42R1)))
def r42 : List ARes := [(.tmp 2)]
def c43 : ACode := (.seq (.region [⟨(some 2), (.mov (.const (.int .i64 0))), none⟩] false []) (.seq (.region [⟨(some 6), (.mov (.tmp 0)), none⟩, ⟨(some 7), (.call (.func 105) [(.tmp 6)]), none⟩, ⟨(some 8), (.call (.func 108) [(.tmp 7)]), none⟩, ⟨(some 5), (.mov (.tmp 8)), none⟩, ⟨(some 9), (.ext (.tmp 5) 0), none⟩, ⟨(some 10), (.ext (.tmp 5) 1), none⟩, ⟨(some 3), (.alloc [(.sc (.int .i64 0)), (.sc (.int .i64 0))]), none⟩, ⟨none, (.store 2 (.tmp 3) (.tmp 9)), none⟩, ⟨(some 4), (.mov (.tmp 10)), none⟩] false []) (.seq (.seq (.region [⟨(some 11), (.mov (.tmp 4)), none⟩, ⟨(some 12), (.un .not (.tmp 11)), none⟩] false []) (.cond (.tmp 12) (.seq (.region [⟨(some 2), (.mov (.const (.int .i64 0))), none⟩] false []) .ret) .skip)) (.seq (.region [⟨(some 13), (.load true 2 (.tmp 3)), none⟩, ⟨(some 14), (.call (.func 107) [(.tmp 13)]), none⟩, ⟨(some 2), (.mov (.tmp 14)), none⟩] false []) .ret))))
def r43 : List ARes := [(.tmp 2)]
def c45L0 : ACode := (.seq (.seq (.region [⟨(some 11), (.mov (.tmp 5)), none⟩, ⟨(some 12), (.mov (.tmp 0)), none⟩, ⟨(some 13), (.len 0 (.tmp 12)), none⟩, ⟨(some 14), (.bin .lss 3 (.tmp 11) (.tmp 13)), none⟩] false []) (.cond (.tmp 14) .skip (.exit 0))) (.seq (.block 1 (.seq (.region [⟨(some 17), (.mov (.tmp 0)), none⟩, ⟨(some 18), (.mov (.tmp 5)), none⟩, ⟨(some 19), (.iaddr none 2 (.tmp 17) (.tmp 18)), none⟩, ⟨(some 20), (.load true 2 (.tmp 19)), none⟩, ⟨(some 21), (.mov (.tmp 1)), none⟩, ⟨(some 22), (.mov (.tmp 5)), none⟩, ⟨(some 23), (.iaddr none 2 (.tmp 21) (.tmp 22)), none⟩, ⟨(some 24), (.load true 2 (.tmp 23)), none⟩, ⟨(some 25), (.eqs true [0, 0] (.tmp 20) (.tmp 24)), none⟩] true []) (.cond (.tmp 25) (.seq (.region [⟨(some 4), (.mov (.const (.bool false))), none⟩] false []) .ret) .skip))) (.region [⟨(some 15), (.mov (.tmp 5)), none⟩, ⟨(some 16), (.bin .add 3 (.tmp 15) (.const (.int .i64 1))), none⟩, ⟨(some 5), (.mov (.tmp 16)), none⟩] false [])))
def c45R1 : ACode := (.seq (.region [⟨(some 4), (.mov (.const (.bool true))), none⟩] false []) .ret)
def c45 : ACode := (.seq (.region [⟨(some 4), (.mov (.const (.bool false))), none⟩] false []) (.seq (.seq (.region [⟨(some 6), (.mov (.tmp 0)), none⟩, ⟨(some 7), (.len 0 (.tmp 6)), none⟩, ⟨(some 8), (.mov (.tmp 1)), none⟩, ⟨(some 9), (.len 0 (.tmp 8)), none⟩, ⟨(some 10), (.bin .neq 3 (.tmp 7) (.tmp 9)), none⟩] false []) (.cond (.tmp 10) (.seq (.region [⟨(some 4), (.mov (.const (.bool false))), none⟩] false []) .ret) .skip)) (.seq (.seq (.region [⟨(some 5), (.mov (.const (.int .i64 0))), none⟩] false []) (.block 0 (.loop c45L0))) c45R1)))
def r45 : List ARes := [(.tmp 4)]
def c49 : ACode := (.seq (.region [⟨(some 1), (.box 2 (.tmp 0)), none⟩, ⟨(some 2), (.mov (.const (.bool false))), none⟩] false []) (.seq (.region [⟨(some 3), (.faddr 0 (.tmp 1)), none⟩, ⟨(some 4), (.load false 1 (.tmp 3)), none⟩, ⟨(some 5), (.bin .geq 3 (.tmp 4) (.const (.int .i64 0))), none⟩, ⟨(some 6), (.mov (.tmp 5)), none⟩, ⟨(some 7), (.faddr 0 (.tmp 1)), (some ((some 6), true))⟩, ⟨(some 8), (.load false 1 (.tmp 7)), (some ((some 6), true))⟩, ⟨(some 9), (.bin .leq 3 (.tmp 8) (.const (.int .i64 32768))), (some ((some 6), true))⟩, ⟨(some 10), (.pick (.tmp 6) (.tmp 9) (.const (.bool false))), none⟩, ⟨(some 11), (.mov (.tmp 10)), none⟩, ⟨(some 12), (.faddr 1 (.tmp 1)), (some ((some 11), true))⟩, ⟨(some 13), (.load false 1 (.tmp 12)), (some ((some 11), true))⟩, ⟨(some 14), (.bin .geq 3 (.tmp 13) (.const (.int .i64 1))), (some ((some 11), true))⟩, ⟨(some 15), (.pick (.tmp 11) (.tmp 14) (.const (.bool false))), none⟩, ⟨(some 16), (.mov (.tmp 15)), none⟩, ⟨(some 17), (.faddr 1 (.tmp 1)), (some ((some 16), true))⟩, ⟨(some 18), (.load false 1 (.tmp 17)), (some ((some 16), true))⟩, ⟨(some 19), (.bin .leq 3 (.tmp 18) (.const (.int .i64 32768))), (some ((some 16), true))⟩, ⟨(some 20), (.pick (.tmp 16) (.tmp 19) (.const (.bool false))), none⟩, ⟨(some 21), (.mov (.tmp 20)), none⟩, ⟨(some 22), (.faddr 0 (.tmp 1)), (some ((some 21), true))⟩, ⟨(some 23), (.load false 1 (.tmp 22)), (some ((some 21), true))⟩, ⟨(some 24), (.faddr 1 (.tmp 1)), (some ((some 21), true))⟩, ⟨(some 25), (.load false 1 (.tmp 24)), (some ((some 21), true))⟩, ⟨(some 26), (.bin .add 3 (.tmp 23) (.tmp 25)), (some ((some 21), true))⟩, ⟨(some 27), (.bin .leq 3 (.tmp 26) (.const (.int .i64 32768))), (some ((some 21), true))⟩, ⟨(some 28), (.pick (.tmp 21) (.tmp 27) (.const (.bool false))), none⟩, ⟨(some 2), (.mov (.tmp 28)), none⟩] false []) .ret))
def r49 : List ARes := [(.tmp 2)]
def c51L0 : ACode := (.seq (.region [⟨(some 72), (.bin .lss 3 (.tmp 71) (.tmp 70)), none⟩] false []) (.seq (.cond (.tmp 72) .skip (.exit 0)) (.seq (.block 1 (.seq (.region [⟨(some 73), (.iaddr none 2 (.tmp 69) (.tmp 71)), none⟩, ⟨(some 74), (.load true 2 (.tmp 73)), none⟩, ⟨(some 9), (.alloc [(.sc (.int .i64 0)), (.sc (.int .i64 0))]), none⟩, ⟨none, (.store 2 (.tmp 9) (.tmp 74)), none⟩] false []) (.seq (.region [⟨(some 75), (.load true 2 (.tmp 9)), none⟩, ⟨(some 76), (.faddr 0 (.tmp 9)), none⟩, ⟨(some 77), (.load false 1 (.tmp 76)), none⟩, ⟨(some 78), (.build [(.sc (.int .i64 0)), (.sc (.int .i64 0))] [(0, (1, (.tmp 77))), (1, (1, (.const (.int .i64 0))))]), none⟩, ⟨(some 79), (.eqs true [0, 0] (.tmp 75) (.tmp 78)), none⟩] false []) (.cond (.tmp 79) (.region [⟨(some 80), (.mov (.tmp 7)), none⟩, ⟨(some 81), (.load true 2 (.tmp 9)), none⟩, ⟨(some 82), (.bslice 2 [(.sc (.int .i64 0)), (.sc (.int .i64 0))] 1 [(0, (.tmp 81))]), none⟩, ⟨(some 83), (.app 2 16 (.tmp 80) (.tmp 82)), none⟩, ⟨(some 7), (.mov (.tmp 83)), none⟩] false []) .skip)))) (.region [⟨(some 84), (.bin .add 3 (.tmp 71) (.const (.int .i64 1))), none⟩, ⟨(some 71), (.mov (.tmp 84)), none⟩] false []))))
def c51R1 : ACode := (.seq (.region [⟨(some 85), (.mov (.tmp 0)), none⟩, ⟨(some 86), (.mov (.tmp 6)), none⟩, ⟨(some 87), (.mov (.tmp 6)), none⟩, ⟨(some 88), (.bin .add 3 (.tmp 87) (.const (.int .i64 1))), none⟩, ⟨(some 89), (.mov (.tmp 7)), none⟩, ⟨(some 90), (.call (.func 112) [(.tmp 85), (.tmp 86), (.tmp 88), (.tmp 89)]), none⟩, ⟨(some 4), (.mov (.tmp 90)), none⟩, ⟨(some 5), (.mov (.const (.bool true))), none⟩] false []) .ret)
def c51 : ACode := (.seq (.region [⟨(some 3), (.box 2 (.tmp 1)), none⟩, ⟨(some 4), (.mov (.const (.slice none 0 0))), none⟩, ⟨(some 5), (.mov (.const (.bool false))), none⟩] false []) (.seq (.region [⟨(some 10), (.mov (.tmp 0)), none⟩, ⟨(some 11), (.call (.func 105) [(.tmp 10)]), none⟩, ⟨(some 12), (.call (.func 111) [(.tmp 11)]), none⟩, ⟨(some 0), (.mov (.tmp 12)), none⟩] false []) (.seq (.region [⟨(some 13), (.mov (.tmp 0)), none⟩, ⟨(some 14), (.load true 2 (.tmp 3)), none⟩, ⟨(some 15), (.call (.func 109) [(.tmp 13), (.tmp 14)]), none⟩, ⟨(some 6), (.mov (.tmp 15)), none⟩] false []) (.seq (.seq (.region [⟨(some 16), (.load true 2 (.tmp 3)), none⟩, ⟨(some 17), (.call (.func 106) [(.tmp 16)]), none⟩, ⟨(some 18), (.un .not (.tmp 17)), none⟩, ⟨(some 19), (.mov (.tmp 18)), none⟩, ⟨(some 20), (.mov (.tmp 6)), (some ((some 19), false))⟩, ⟨(some 21), (.bin .lss 3 (.tmp 20) (.const (.int .i64 0))), (some ((some 19), false))⟩, ⟨(some 22), (.pick (.tmp 19) (.const (.bool true)) (.tmp 21)), none⟩, ⟨(some 23), (.mov (.tmp 22)), none⟩, ⟨(some 24), (.faddr 0 (.tmp 3)), (some ((some 23), false))⟩, ⟨(some 25), (.load false 1 (.tmp 24)), (some ((some 23), false))⟩, ⟨(some 26), (.mov (.tmp 0)), (some ((some 23), false))⟩, ⟨(some 27), (.mov (.tmp 6)), (some ((some 23), false))⟩, ⟨(some 28), (.iaddr none 2 (.tmp 26) (.tmp 27)), (some ((some 23), false))⟩, ⟨(some 29), (.faddr 0 (.tmp 28)), (some ((some 23), false))⟩, ⟨(some 30), (.load false 1 (.tmp 29)), (some ((some 23), false))⟩, ⟨(some 31), (.bin .lss 3 (.tmp 25) (.tmp 30)), (some ((some 23), false))⟩, ⟨(some 32), (.pick (.tmp 23) (.const (.bool true)) (.tmp 31)), none⟩, ⟨(some 33), (.mov (.tmp 32)), none⟩, ⟨(some 34), (.load true 2 (.tmp 3)), (some ((some 33), false))⟩, ⟨(some 35), (.call (.func 107) [(.tmp 34)]), (some ((some 33), false))⟩, ⟨(some 36), (.mov (.tmp 0)), (some ((some 33), false))⟩, ⟨(some 37), (.mov (.tmp 6)), (some ((some 33), false))⟩, ⟨(some 38), (.iaddr none 2 (.tmp 36) (.tmp 37)), (some ((some 33), false))⟩, ⟨(some 39), (.load true 2 (.tmp 38)), (some ((some 33), false))⟩, ⟨(some 40), (.call (.func 107) [(.tmp 39)]), (some ((some 33), false))⟩, ⟨(some 41), (.bin .gtr 3 (.tmp 35) (.tmp 40)), (some ((some 33), false))⟩, ⟨(some 42), (.pick (.tmp 33) (.const (.bool true)) (.tmp 41)), none⟩] true [(19, 22), (19, 23)]) (.cond (.tmp 42) (.seq (.region [⟨(some 43), (.mov (.tmp 0)), none⟩, ⟨(some 4), (.mov (.tmp 43)), none⟩, ⟨(some 5), (.mov (.const (.bool false))), none⟩] false []) .ret) .skip)) (.seq (.region [⟨(some 7), (.mov (.const (.slice none 0 0))), none⟩] false []) (.seq (.seq (.region [⟨(some 44), (.mov (.tmp 0)), none⟩, ⟨(some 45), (.mov (.tmp 6)), none⟩, ⟨(some 46), (.iaddr none 2 (.tmp 44) (.tmp 45)), none⟩, ⟨(some 47), (.faddr 0 (.tmp 46)), none⟩, ⟨(some 48), (.load false 1 (.tmp 47)), none⟩, ⟨(some 49), (.faddr 0 (.tmp 3)), none⟩, ⟨(some 50), (.load false 1 (.tmp 49)), none⟩, ⟨(some 51), (.mov (.tmp 0)), none⟩, ⟨(some 52), (.mov (.tmp 6)), none⟩, ⟨(some 53), (.iaddr none 2 (.tmp 51) (.tmp 52)), none⟩, ⟨(some 54), (.faddr 0 (.tmp 53)), none⟩, ⟨(some 55), (.load false 1 (.tmp 54)), none⟩, ⟨(some 56), (.bin .sub 3 (.tmp 50) (.tmp 55)), none⟩, ⟨(some 57), (.build [(.sc (.int .i64 0)), (.sc (.int .i64 0))] [(0, (1, (.tmp 48))), (1, (1, (.tmp 56)))]), none⟩, ⟨(some 58), (.load true 2 (.tmp 3)), none⟩, ⟨(some 59), (.call (.func 107) [(.tmp 58)]), none⟩, ⟨(some 60), (.mov (.tmp 0)), none⟩, ⟨(some 61), (.mov (.tmp 6)), none⟩, ⟨(some 62), (.iaddr none 2 (.tmp 60) (.tmp 61)), none⟩, ⟨(some 63), (.load true 2 (.tmp 62)), none⟩, ⟨(some 64), (.call (.func 107) [(.tmp 63)]), none⟩, ⟨(some 65), (.load true 2 (.tmp 3)), none⟩, ⟨(some 66), (.call (.func 107) [(.tmp 65)]), none⟩, ⟨(some 67), (.bin .sub 3 (.tmp 64) (.tmp 66)), none⟩, ⟨(some 68), (.build [(.sc (.int .i64 0)), (.sc (.int .i64 0))] [(0, (1, (.tmp 59))), (1, (1, (.tmp 67)))]), none⟩, ⟨(some 69), (.bslice 2 [(.sc (.int .i64 0)), (.sc (.int .i64 0))] 2 [(0, (.tmp 57)), (1, (.tmp 68))]), none⟩, ⟨(some 70), (.len 0 (.tmp 69)), none⟩, ⟨(some 71), (.mov (.const (.int .i64 0))), none⟩] true [(2, 15), (4, 15), (6, 15), (9, 15), (11, 15), (15, 18), (15, 19), (2, 20), (4, 20), (6, 20), (9, 20), (11, 20), (15, 21), (20, 21), (2, 22), (4, 22), (6, 22), (9, 22), (11, 22)]) (.block 0 (.loop c51L0))) c51R1))))))
def r51 : List ARes := [(.tmp 4), (.tmp 5)]
def c52 : ACode := (.seq (.region [⟨(some 4), (.mov (.const (.slice none 0 0))), none⟩] false []) (.seq (.region [⟨(some 5), (.mov (.tmp 0)), none⟩, ⟨(some 6), (.call (.func 105) [(.tmp 5)]), none⟩, ⟨(some 7), (.mov (.tmp 1)), none⟩, ⟨(some 8), (.call (.func 105) [(.tmp 7)]), none⟩, ⟨(some 9), (.bslice 1 [(.sc (.slice none 0 0))] 2 [(0, (.tmp 6)), (1, (.tmp 8))]), none⟩, ⟨(some 10), (.call (.func 113) [(.tmp 9)]), none⟩, ⟨(some 11), (.call (.func 110) [(.tmp 10)]), none⟩, ⟨(some 4), (.mov (.tmp 11)), none⟩] false []) .ret))
def r52 : List ARes := [(.tmp 4)]
def c53 : ACode := (.seq (.region [⟨(some 3), (.box 1 (.tmp 1)), none⟩, ⟨(some 4), (.mov (.const (.bool false))), none⟩] false []) (.seq (.region [⟨(some 5), (.load false 1 (.tmp 3)), none⟩, ⟨(some 6), (.call (.func 105) [(.tmp 5)]), none⟩, ⟨none, (.store 1 (.tmp 3) (.tmp 6)), none⟩] false []) (.seq (.region [⟨(some 7), (.mov (.tmp 0)), none⟩, ⟨(some 8), (.call (.func 105) [(.tmp 7)]), none⟩, ⟨(some 9), (.mkfn (.func 115) [] [(.tmp 3)]), none⟩, ⟨(some 10), (.call (.func 114) [(.tmp 8), (.tmp 9)]), none⟩, ⟨(some 4), (.mov (.tmp 10)), none⟩] false []) .ret)))
def r53 : List ARes := [(.tmp 4)]
def c54 : ACode := (.seq (.region [⟨(some 3), (.box 1 (.tmp 1)), none⟩, ⟨(some 4), (.mov (.const (.int .i64 0))), none⟩, ⟨(some 5), (.mov (.const (.slice none 0 0))), none⟩, ⟨(some 6), (.mov (.const (.bool false))), none⟩] false []) (.seq (.region [⟨(some 9), (.mov (.tmp 0)), none⟩, ⟨(some 10), (.call (.func 105) [(.tmp 9)]), none⟩, ⟨(some 11), (.call (.func 111) [(.tmp 10)]), none⟩, ⟨(some 0), (.mov (.tmp 11)), none⟩] false []) (.seq (.region [⟨(some 12), (.mov (.tmp 0)), none⟩, ⟨(some 13), (.mkfn (.func 117) [] [(.tmp 3)]), none⟩, ⟨(some 14), (.call (.func 116) [(.tmp 12), (.tmp 13)]), none⟩, ⟨(some 7), (.mov (.tmp 14)), none⟩] false []) (.seq (.seq (.region [⟨(some 15), (.mov (.tmp 7)), none⟩, ⟨(some 16), (.bin .lss 3 (.tmp 15) (.const (.int .i64 0))), none⟩] false []) (.cond (.tmp 16) (.seq (.region [⟨(some 17), (.mov (.tmp 0)), none⟩, ⟨(some 4), (.mov (.const (.int .i64 0))), none⟩, ⟨(some 5), (.mov (.tmp 17)), none⟩, ⟨(some 6), (.mov (.const (.bool false))), none⟩] false []) .ret) .skip)) (.seq (.region [⟨(some 18), (.mov (.tmp 0)), none⟩, ⟨(some 19), (.mov (.tmp 7)), none⟩, ⟨(some 20), (.iaddr none 2 (.tmp 18) (.tmp 19)), none⟩, ⟨(some 21), (.faddr 0 (.tmp 20)), none⟩, ⟨(some 22), (.load false 1 (.tmp 21)), none⟩, ⟨(some 23), (.load false 1 (.tmp 3)), none⟩, ⟨(some 24), (.build [(.sc (.int .i64 0)), (.sc (.int .i64 0))] [(0, (1, (.tmp 22))), (1, (1, (.tmp 23)))]), none⟩, ⟨(some 8), (.alloc [(.sc (.int .i64 0)), (.sc (.int .i64 0))]), none⟩, ⟨none, (.store 2 (.tmp 8) (.tmp 24)), none⟩] true [(2, 7), (4, 7), (5, 7)]) (.seq (.region [⟨(some 26), (.mov (.tmp 0)), none⟩, ⟨(some 27), (.load true 2 (.tmp 8)), none⟩, ⟨(some 28), (.call (.func 51) [(.tmp 26), (.tmp 27)]), none⟩, ⟨(some 25), (.mov (.tmp 28)), none⟩, ⟨(some 29), (.ext (.tmp 25) 0), none⟩, ⟨(some 30), (.ext (.tmp 25) 1), none⟩, ⟨(some 5), (.mov (.tmp 29)), none⟩, ⟨(some 6), (.mov (.tmp 30)), none⟩] false []) (.seq (.region [⟨(some 31), (.faddr 0 (.tmp 8)), none⟩, ⟨(some 32), (.load false 1 (.tmp 31)), none⟩, ⟨(some 33), (.mov (.tmp 5)), none⟩, ⟨(some 34), (.mov (.tmp 6)), none⟩, ⟨(some 4), (.mov (.tmp 32)), none⟩, ⟨(some 5), (.mov (.tmp 33)), none⟩, ⟨(some 6), (.mov (.tmp 34)), none⟩] false []) .ret)))))))
def r54 : List ARes := [(.tmp 4), (.tmp 5), (.tmp 6)]
def c55L0 : ACode := (.seq (.region [⟨(some 15), (.bin .lss 3 (.tmp 14) (.tmp 13)), none⟩] false []) (.seq (.cond (.tmp 15) .skip (.exit 0)) (.seq (.block 1 (.seq (.region [⟨(some 16), (.iaddr none 5 (.tmp 12) (.tmp 14)), none⟩, ⟨(some 17), (.load true 5 (.tmp 16)), none⟩, ⟨(some 9), (.alloc [(.sc (.int .i64 0)), (.sc (.int .i64 0)), (.sc (.int .i64 0)), (.sc (.int .i64 0)), (.sc (.int .i64 0))]), none⟩, ⟨none, (.store 5 (.tmp 9) (.tmp 17)), none⟩] false []) (.seq (.seq (.region [⟨(some 18), (.faddr 0 (.tmp 9)), none⟩, ⟨(some 19), (.load false 1 (.tmp 18)), none⟩, ⟨(some 20), (.bin .neq 3 (.tmp 19) (.const (.int .i64 2))), none⟩, ⟨(some 21), (.mov (.tmp 20)), none⟩, ⟨(some 22), (.faddr 2 (.tmp 9)), (some ((some 21), true))⟩, ⟨(some 23), (.load false 1 (.tmp 22)), (some ((some 21), true))⟩, ⟨(some 24), (.bin .gtr 3 (.tmp 23) (.const (.int .i64 60))), (some ((some 21), true))⟩, ⟨(some 25), (.pick (.tmp 21) (.tmp 24) (.const (.bool false))), none⟩, ⟨(some 26), (.mov (.tmp 25)), none⟩, ⟨(some 27), (.faddr 2 (.tmp 9)), (some ((some 26), true))⟩, ⟨(some 28), (.load false 1 (.tmp 27)), (some ((some 26), true))⟩, ⟨(some 29), (.bin .leq 3 (.tmp 28) (.const (.int .i64 16384))), (some ((some 26), true))⟩, ⟨(some 30), (.pick (.tmp 26) (.tmp 29) (.const (.bool false))), none⟩, ⟨(some 31), (.mov (.tmp 30)), none⟩, ⟨(some 32), (.faddr 0 (.tmp 9)), (some ((some 31), false))⟩, ⟨(some 33), (.load false 1 (.tmp 32)), (some ((some 31), false))⟩, ⟨(some 34), (.bin .eql 3 (.tmp 33) (.const (.int .i64 2))), (some ((some 31), false))⟩, ⟨(some 35), (.mov (.tmp 34)), (some ((some 31), false))⟩, ⟨(some 36), (.faddr 1 (.tmp 9)), (some ((some 35), true))⟩, ⟨(some 37), (.load false 1 (.tmp 36)), (some ((some 35), true))⟩, ⟨(some 38), (.bin .lss 3 (.tmp 37) (.const (.int .i64 0))), (some ((some 35), true))⟩, ⟨(some 39), (.pick (.tmp 35) (.tmp 38) (.const (.bool false))), (some ((some 31), false))⟩, ⟨(some 40), (.pick (.tmp 31) (.const (.bool true)) (.tmp 39)), none⟩] false []) (.cond (.tmp 40) (.seq (.region [⟨(some 6), (.mov (.const (.bool false))), none⟩] false []) .ret) .skip)) (.region [⟨(some 41), (.mov (.tmp 7)), none⟩, ⟨(some 42), (.bin .add 3 (.tmp 41) (.const (.int .i64 1))), none⟩, ⟨(some 7), (.mov (.tmp 42)), none⟩] false [])))) (.region [⟨(some 43), (.bin .add 3 (.tmp 14) (.const (.int .i64 1))), none⟩, ⟨(some 14), (.mov (.tmp 43)), none⟩] false []))))
def c55L1 : ACode := (.seq (.region [⟨(some 53), (.bin .lss 3 (.tmp 52) (.tmp 51)), none⟩] false []) (.seq (.cond (.tmp 53) .skip (.exit 2)) (.seq (.block 3 (.seq (.region [⟨(some 54), (.iaddr none 2 (.tmp 50) (.tmp 52)), none⟩, ⟨(some 55), (.load true 2 (.tmp 54)), none⟩, ⟨(some 11), (.alloc [(.sc (.int .i64 0)), (.sc (.int .i64 0))]), none⟩, ⟨none, (.store 2 (.tmp 11) (.tmp 55)), none⟩] false []) (.seq (.region [⟨(some 56), (.load true 2 (.tmp 11)), none⟩, ⟨(some 57), (.call (.func 49) [(.tmp 56)]), none⟩, ⟨(some 58), (.mov (.tmp 57)), none⟩, ⟨(some 59), (.faddr 0 (.tmp 11)), (some ((some 58), true))⟩, ⟨(some 60), (.load false 1 (.tmp 59)), (some ((some 58), true))⟩, ⟨(some 61), (.faddr 1 (.tmp 11)), (some ((some 58), true))⟩, ⟨(some 62), (.load false 1 (.tmp 61)), (some ((some 58), true))⟩, ⟨(some 63), (.bin .add 3 (.tmp 60) (.tmp 62)), (some ((some 58), true))⟩, ⟨(some 64), (.bin .gtr 3 (.tmp 63) (.const (.int .i64 600))), (some ((some 58), true))⟩, ⟨(some 65), (.pick (.tmp 58) (.tmp 64) (.const (.bool false))), none⟩] false []) (.cond (.tmp 65) (.seq (.region [⟨(some 6), (.mov (.const (.bool false))), none⟩] false []) .ret) .skip)))) (.region [⟨(some 66), (.bin .add 3 (.tmp 52) (.const (.int .i64 1))), none⟩, ⟨(some 52), (.mov (.tmp 66)), none⟩] false []))))
def c55R2 : ACode := (.seq (.region [⟨(some 67), (.mov (.tmp 7)), none⟩, ⟨(some 68), (.bin .leq 3 (.tmp 67) (.const (.int .i64 60))), none⟩, ⟨(some 69), (.mov (.tmp 68)), none⟩, ⟨(some 70), (.mov (.tmp 1)), (some ((some 69), true))⟩, ⟨(some 71), (.bin .leq 3 (.tmp 70) (.const (.int .i64 600))), (some ((some 69), true))⟩, ⟨(some 72), (.pick (.tmp 69) (.tmp 71) (.const (.bool false))), none⟩, ⟨(some 6), (.mov (.tmp 72)), none⟩] false []) .ret)
def c55R3 : ACode := (.seq (.seq (.region [⟨(some 44), (.bslice 2 [(.sc (.int .i64 0)), (.sc (.int .i64 0))] 0 []), none⟩, ⟨(some 45), (.faddr 0 (.tmp 3)), none⟩, ⟨(some 46), (.load false 1 (.tmp 45)), none⟩, ⟨(some 47), (.app 2 16 (.tmp 44) (.tmp 46)), none⟩, ⟨(some 48), (.faddr 1 (.tmp 3)), none⟩, ⟨(some 49), (.load false 1 (.tmp 48)), none⟩, ⟨(some 50), (.app 2 16 (.tmp 47) (.tmp 49)), none⟩, ⟨(some 51), (.len 0 (.tmp 50)), none⟩, ⟨(some 52), (.mov (.const (.int .i64 0))), none⟩] true [(0, 2), (0, 5), (3, 5)]) (.block 2 (.loop c55L1))) c55R2)
def c55 : ACode := (.seq (.region [⟨(some 3), (.box 2 (.tmp 0)), none⟩, ⟨(some 6), (.mov (.const (.bool false))), none⟩] false []) (.seq (.region [⟨(some 7), (.mov (.const (.int .i64 0))), none⟩] false []) (.seq (.seq (.region [⟨(some 12), (.mov (.tmp 2)), none⟩, ⟨(some 13), (.len 0 (.tmp 12)), none⟩, ⟨(some 14), (.mov (.const (.int .i64 0))), none⟩] false []) (.block 0 (.loop c55L0))) c55R3)))
def r55 : List ARes := [(.tmp 6)]
def c56 : ACode := (.seq (.region [⟨(some 0), (.mov (.const (.bool false))), none⟩] false []) (.seq (.region [⟨(some 11), (.build [(.sc (.int .i64 0)), (.sc (.int .i64 0))] [(0, (1, (.const (.int .i64 5)))), (1, (1, (.const (.int .i64 2))))]), none⟩, ⟨(some 12), (.bslice 2 [(.sc (.int .i64 0)), (.sc (.int .i64 0))] 1 [(0, (.tmp 11))]), none⟩, ⟨(some 13), (.build [(.sc (.slice none 0 0)), (.sc (.slice none 0 0))] [(0, (1, (.tmp 12)))]), none⟩, ⟨(some 14), (.call (.func 57) [(.tmp 13), (.const (.int .i64 1)), (.const (.int .i64 8)), (.const (.int .i64 20))]), none⟩, ⟨(some 10), (.mov (.tmp 14)), none⟩, ⟨(some 15), (.ext (.tmp 10) 0), none⟩, ⟨(some 16), (.ext (.tmp 10) 1), none⟩, ⟨(some 1), (.mov (.tmp 15)), none⟩, ⟨(some 2), (.mov (.tmp 16)), none⟩] false []) (.seq (.seq (.region [⟨(some 17), (.mov (.tmp 2)), none⟩, ⟨(some 18), (.bin .neq 95 (.tmp 17) (.const (.int .i64 0))), none⟩, ⟨(some 19), (.mov (.tmp 18)), none⟩, ⟨(some 20), (.mov (.tmp 1)), (some ((some 19), false))⟩, ⟨(some 21), (.isnil false 1 (.tmp 20)), (some ((some 19), false))⟩, ⟨(some 22), (.pick (.tmp 19) (.const (.bool true)) (.tmp 21)), none⟩] false []) (.cond (.tmp 22) (.seq (.region [⟨(some 0), (.mov (.const (.bool false))), none⟩] false []) .ret) .skip)) (.seq (.region [⟨(some 24), (.mov (.tmp 1)), none⟩, ⟨(some 25), (.call (.func 61) [(.tmp 24), (.const (.int .i64 2))]), none⟩, ⟨(some 23), (.mov (.tmp 25)), none⟩, ⟨(some 26), (.ext (.tmp 23) 0), none⟩, ⟨(some 27), (.ext (.tmp 23) 1), none⟩, ⟨(some 3), (.mov (.tmp 26)), none⟩, ⟨(some 4), (.mov (.tmp 27)), none⟩] false []) (.seq (.region [⟨(some 29), (.mov (.tmp 1)), none⟩, ⟨(some 30), (.call (.func 61) [(.tmp 29), (.const (.int .i64 1))]), none⟩, ⟨(some 28), (.mov (.tmp 30)), none⟩, ⟨(some 31), (.ext (.tmp 28) 0), none⟩, ⟨(some 32), (.ext (.tmp 28) 1), none⟩, ⟨(some 5), (.mov (.tmp 31)), none⟩, ⟨(some 6), (.mov (.tmp 32)), none⟩] false []) (.seq (.region [⟨(some 33), (.mov (.tmp 1)), none⟩, ⟨(some 34), (.build [(.sc (.int .i64 0)), (.sc (.int .i64 0))] [(0, (1, (.const (.int .i64 5)))), (1, (1, (.const (.int .i64 2))))]), none⟩, ⟨(some 35), (.call (.func 64) [(.tmp 33), (.const (.int .i64 3)), (.tmp 34)]), none⟩, ⟨(some 7), (.mov (.tmp 35)), none⟩] false []) (.seq (.region [⟨(some 36), (.mov (.tmp 1)), none⟩, ⟨(some 37), (.build [(.sc (.int .i64 0)), (.sc (.int .i64 0))] [(0, (1, (.const (.int .i64 6)))), (1, (1, (.const (.int .i64 1))))]), none⟩, ⟨(some 38), (.call (.func 64) [(.tmp 36), (.const (.int .i64 4)), (.tmp 37)]), none⟩, ⟨(some 8), (.mov (.tmp 38)), none⟩] false []) (.seq (.region [⟨(some 39), (.mov (.tmp 1)), none⟩, ⟨(some 40), (.call (.func 73) [(.tmp 39)]), none⟩, ⟨(some 9), (.mov (.tmp 40)), none⟩] false []) (.seq (.region [⟨(some 41), (.mov (.tmp 1)), none⟩, ⟨(some 42), (.call (.func 65) [(.tmp 41), (.const (.int .i64 5)), (.const (.int .i64 9))]), none⟩] false []) (.seq (.seq (.region [⟨(some 43), (.mov (.tmp 9)), none⟩, ⟨(some 44), (.isnil false 1 (.tmp 43)), none⟩] false []) (.cond (.tmp 44) (.seq (.region [⟨(some 0), (.mov (.const (.bool false))), none⟩] false []) .ret) .skip)) (.seq (.region [⟨(some 45), (.mov (.tmp 3)), none⟩, ⟨(some 46), (.bin .eql 3 (.tmp 45) (.const (.int .i64 5))), none⟩, ⟨(some 47), (.mov (.tmp 46)), none⟩, ⟨(some 48), (.mov (.tmp 4)), (some ((some 47), true))⟩, ⟨(some 49), (.bin .eql 95 (.tmp 48) (.const (.int .i64 0))), (some ((some 47), true))⟩, ⟨(some 50), (.pick (.tmp 47) (.tmp 49) (.const (.bool false))), none⟩, ⟨(some 51), (.mov (.tmp 50)), none⟩, ⟨(some 52), (.mov (.tmp 5)), (some ((some 51), true))⟩, ⟨(some 53), (.bin .eql 3 (.tmp 52) (.const (.int .i64 8))), (some ((some 51), true))⟩, ⟨(some 54), (.pick (.tmp 51) (.tmp 53) (.const (.bool false))), none⟩, ⟨(some 55), (.mov (.tmp 54)), none⟩, ⟨(some 56), (.mov (.tmp 6)), (some ((some 55), true))⟩, ⟨(some 57), (.bin .eql 95 (.tmp 56) (.const (.int .i64 0))), (some ((some 55), true))⟩, ⟨(some 58), (.pick (.tmp 55) (.tmp 57) (.const (.bool false))), none⟩, ⟨(some 59), (.mov (.tmp 58)), none⟩, ⟨(some 60), (.mov (.tmp 7)), (some ((some 59), true))⟩, ⟨(some 61), (.bin .eql 95 (.tmp 60) (.const (.int .i64 0))), (some ((some 59), true))⟩, ⟨(some 62), (.pick (.tmp 59) (.tmp 61) (.const (.bool false))), none⟩, ⟨(some 63), (.mov (.tmp 62)), none⟩, ⟨(some 64), (.mov (.tmp 8)), (some ((some 63), true))⟩, ⟨(some 65), (.bin .eql 95 (.tmp 64) (.const (.int .i64 110))), (some ((some 63), true))⟩, ⟨(some 66), (.pick (.tmp 63) (.tmp 65) (.const (.bool false))), none⟩, ⟨(some 67), (.mov (.tmp 66)), none⟩, ⟨(some 68), (.mov (.tmp 1)), (some ((some 67), true))⟩, ⟨(some 69), (.call (.func 59) [(.tmp 68)]), (some ((some 67), true))⟩, ⟨(some 70), (.bin .eql 3 (.tmp 69) (.const (.int .i64 9))), (some ((some 67), true))⟩, ⟨(some 71), (.pick (.tmp 67) (.tmp 70) (.const (.bool false))), none⟩, ⟨(some 72), (.mov (.tmp 71)), none⟩, ⟨(some 73), (.mov (.tmp 1)), (some ((some 72), true))⟩, ⟨(some 74), (.call (.func 60) [(.tmp 73)]), (some ((some 72), true))⟩, ⟨(some 75), (.call (.func 42) [(.tmp 74)]), (some ((some 72), true))⟩, ⟨(some 76), (.bin .eql 3 (.tmp 75) (.const (.int .i64 2))), (some ((some 72), true))⟩, ⟨(some 77), (.pick (.tmp 72) (.tmp 76) (.const (.bool false))), none⟩, ⟨(some 78), (.mov (.tmp 77)), none⟩, ⟨(some 79), (.mov (.tmp 1)), (some ((some 78), true))⟩, ⟨(some 80), (.call (.func 63) [(.tmp 79)]), (some ((some 78), true))⟩, ⟨(some 81), (.call (.func 42) [(.tmp 80)]), (some ((some 78), true))⟩, ⟨(some 82), (.bin .eql 3 (.tmp 81) (.const (.int .i64 0))), (some ((some 78), true))⟩, ⟨(some 83), (.pick (.tmp 78) (.tmp 82) (.const (.bool false))), none⟩, ⟨(some 84), (.mov (.tmp 83)), none⟩, ⟨(some 85), (.mov (.tmp 9)), (some ((some 84), true))⟩, ⟨(some 86), (.call (.func 63) [(.tmp 85)]), (some ((some 84), true))⟩, ⟨(some 87), (.call (.func 42) [(.tmp 86)]), (some ((some 84), true))⟩, ⟨(some 88), (.bin .eql 3 (.tmp 87) (.const (.int .i64 2))), (some ((some 84), true))⟩, ⟨(some 89), (.pick (.tmp 84) (.tmp 88) (.const (.bool false))), none⟩, ⟨(some 90), (.mov (.tmp 89)), none⟩, ⟨(some 91), (.mov (.tmp 9)), (some ((some 90), true))⟩, ⟨(some 92), (.call (.func 74) [(.tmp 91), (.const (.int .i64 3))]), (some ((some 90), true))⟩, ⟨(some 93), (.field false 1 1 (.tmp 92)), (some ((some 90), true))⟩, ⟨(some 94), (.call (.func 42) [(.tmp 93)]), (some ((some 90), true))⟩, ⟨(some 95), (.bin .eql 3 (.tmp 94) (.const (.int .i64 2))), (some ((some 90), true))⟩, ⟨(some 96), (.pick (.tmp 90) (.tmp 95) (.const (.bool false))), none⟩, ⟨(some 0), (.mov (.tmp 96)), none⟩] false []) .ret)))))))))))
def r56 : List ARes := [(.tmp 0)]
def c57 : ACode := (.seq (.region [⟨(some 4), (.box 2 (.tmp 0)), none⟩, ⟨(some 8), (.mov (.const (.pointer none))), none⟩, ⟨(some 9), (.mov (.const (.int .i64 0))), none⟩] false []) (.seq (.region [⟨(some 11), (.faddr 0 (.tmp 4)), none⟩, ⟨(some 12), (.load false 1 (.tmp 11)), none⟩, ⟨(some 13), (.call (.func 43) [(.tmp 12)]), none⟩, ⟨(some 14), (.mov (.tmp 2)), none⟩, ⟨(some 15), (.bin .leq 3 (.tmp 13) (.tmp 14)), none⟩, ⟨(some 16), (.mov (.tmp 15)), none⟩, ⟨(some 17), (.faddr 1 (.tmp 4)), (some ((some 16), true))⟩, ⟨(some 18), (.load false 1 (.tmp 17)), (some ((some 16), true))⟩, ⟨(some 19), (.call (.func 43) [(.tmp 18)]), (some ((some 16), true))⟩, ⟨(some 20), (.mov (.tmp 2)), (some ((some 16), true))⟩, ⟨(some 21), (.bin .leq 3 (.tmp 19) (.tmp 20)), (some ((some 16), true))⟩, ⟨(some 22), (.pick (.tmp 16) (.tmp 21) (.const (.bool false))), none⟩, ⟨(some 10), (.mov (.tmp 22)), none⟩] false []) (.seq (.seq (.region [⟨(some 23), (.load true 2 (.tmp 4)), none⟩, ⟨(some 24), (.call (.func 118) [(.tmp 23)]), none⟩, ⟨(some 25), (.un .not (.tmp 24)), none⟩, ⟨(some 26), (.mov (.tmp 25)), none⟩, ⟨(some 27), (.mov (.tmp 10)), (some ((some 26), false))⟩, ⟨(some 28), (.un .not (.tmp 27)), (some ((some 26), false))⟩, ⟨(some 29), (.pick (.tmp 26) (.const (.bool true)) (.tmp 28)), none⟩, ⟨(some 30), (.mov (.tmp 29)), none⟩, ⟨(some 31), (.mov (.tmp 2)), (some ((some 30), false))⟩, ⟨(some 32), (.bin .lss 3 (.tmp 31) (.const (.int .i64 2))), (some ((some 30), false))⟩, ⟨(some 33), (.pick (.tmp 30) (.const (.bool true)) (.tmp 32)), none⟩, ⟨(some 34), (.mov (.tmp 33)), none⟩, ⟨(some 35), (.mov (.tmp 2)), (some ((some 34), false))⟩, ⟨(some 36), (.mov (.tmp 3)), (some ((some 34), false))⟩, ⟨(some 37), (.bin .gtr 3 (.tmp 35) (.tmp 36)), (some ((some 34), false))⟩, ⟨(some 38), (.pick (.tmp 34) (.const (.bool true)) (.tmp 37)), none⟩, ⟨(some 39), (.mov (.tmp 38)), none⟩, ⟨(some 40), (.mov (.tmp 3)), (some ((some 39), false))⟩, ⟨(some 41), (.bin .gtr 3 (.tmp 40) (.const (.int .i64 16384))), (some ((some 39), false))⟩, ⟨(some 42), (.pick (.tmp 39) (.const (.bool true)) (.tmp 41)), none⟩, ⟨(some 43), (.mov (.tmp 42)), none⟩, ⟨(some 44), (.mov (.tmp 1)), (some ((some 43), false))⟩, ⟨(some 45), (.bin .lss 3 (.tmp 44) (.const (.int .i64 0))), (some ((some 43), false))⟩, ⟨(some 46), (.pick (.tmp 43) (.const (.bool true)) (.tmp 45)), none⟩] false []) (.cond (.tmp 46) (.seq (.region [⟨(some 8), (.mov (.const (.pointer none))), none⟩, ⟨(some 9), (.mov (.const (.int .i64 1))), none⟩] false []) .ret) .skip)) (.seq (.region [⟨(some 47), (.mov (.tmp 2)), none⟩, ⟨(some 48), (.mov (.tmp 3)), none⟩, ⟨(some 49), (.faddr 0 (.tmp 4)), none⟩, ⟨(some 50), (.load false 1 (.tmp 49)), none⟩, ⟨(some 51), (.call (.func 111) [(.tmp 50)]), none⟩, ⟨(some 52), (.mkmap (some .i64)), none⟩, ⟨(some 53), (.mov (.tmp 1)), none⟩, ⟨(some 54), (.faddr 1 (.tmp 4)), none⟩, ⟨(some 55), (.load false 1 (.tmp 54)), none⟩, ⟨(some 56), (.call (.func 111) [(.tmp 55)]), none⟩, ⟨none, (.mput (some .i64) (.tmp 52) (.tmp 53) (.tmp 56)), none⟩, ⟨(some 57), (.mov (.tmp 52)), none⟩, ⟨(some 58), (.build [(.sc (.int .i64 0)), (.sc (.int .i64 0)), (.sc (.slice none 0 0)), (.sc (.map none))] [(0, (1, (.tmp 47))), (1, (1, (.tmp 48))), (2, (1, (.tmp 51))), (3, (1, (.tmp 57)))]), none⟩, ⟨(some 59), (.box 4 (.tmp 58)), none⟩, ⟨(some 8), (.mov (.tmp 59)), none⟩, ⟨(some 9), (.mov (.const (.int .i64 0))), none⟩] true [(3, 5), (4, 5), (4, 8), (5, 8), (5, 9)]) .ret))))
def r57 : List ARes := [(.tmp 8), (.tmp 9)]
def c58L0 : ACode := (.seq (.region [⟨(some 12), (.bin .lss 3 (.tmp 11) (.tmp 10)), none⟩] false []) (.seq (.cond (.tmp 12) .skip (.exit 0)) (.seq (.block 1 (.seq (.region [⟨(some 13), (.iaddr none 2 (.tmp 9) (.tmp 11)), none⟩, ⟨(some 14), (.load true 2 (.tmp 13)), none⟩, ⟨(some 5), (.alloc [(.sc (.int .i64 0)), (.sc (.int .i64 0))]), none⟩, ⟨none, (.store 2 (.tmp 5) (.tmp 14)), none⟩] false []) (.region [⟨(some 15), (.faddr 0 (.tmp 3)), none⟩, ⟨(some 16), (.load false 1 (.tmp 15)), none⟩, ⟨(some 17), (.load true 2 (.tmp 5)), none⟩, ⟨(some 18), (.bslice 2 [(.sc (.int .i64 0)), (.sc (.int .i64 0))] 1 [(0, (.tmp 17))]), none⟩, ⟨(some 19), (.app 2 16 (.tmp 16) (.tmp 18)), none⟩, ⟨(some 20), (.faddr 0 (.tmp 3)), none⟩, ⟨none, (.store 1 (.tmp 20) (.tmp 19)), none⟩] false []))) (.region [⟨(some 21), (.bin .add 3 (.tmp 11) (.const (.int .i64 1))), none⟩, ⟨(some 11), (.mov (.tmp 21)), none⟩] false []))))
def c58L1 : ACode := (.seq (.region [⟨(some 26), (.bin .lss 3 (.tmp 25) (.tmp 24)), none⟩] false []) (.seq (.cond (.tmp 26) .skip (.exit 2)) (.seq (.block 3 (.seq (.region [⟨(some 27), (.iaddr none 2 (.tmp 23) (.tmp 25)), none⟩, ⟨(some 28), (.load true 2 (.tmp 27)), none⟩, ⟨(some 7), (.alloc [(.sc (.int .i64 0)), (.sc (.int .i64 0))]), none⟩, ⟨none, (.store 2 (.tmp 7) (.tmp 28)), none⟩] false []) (.region [⟨(some 29), (.faddr 1 (.tmp 3)), none⟩, ⟨(some 30), (.load false 1 (.tmp 29)), none⟩, ⟨(some 31), (.load true 2 (.tmp 7)), none⟩, ⟨(some 32), (.bslice 2 [(.sc (.int .i64 0)), (.sc (.int .i64 0))] 1 [(0, (.tmp 31))]), none⟩, ⟨(some 33), (.app 2 16 (.tmp 30) (.tmp 32)), none⟩, ⟨(some 34), (.faddr 1 (.tmp 3)), none⟩, ⟨none, (.store 1 (.tmp 34) (.tmp 33)), none⟩] false []))) (.region [⟨(some 35), (.bin .add 3 (.tmp 25) (.const (.int .i64 1))), none⟩, ⟨(some 25), (.mov (.tmp 35)), none⟩] false []))))
def c58R2 : ACode := (.seq (.region [⟨(some 36), (.load true 2 (.tmp 3)), none⟩, ⟨none, (.store 2 (.tmp 2) (.tmp 36)), none⟩] false []) .ret)
def c58R3 : ACode := (.seq (.seq (.region [⟨(some 22), (.faddr 1 (.tmp 1)), none⟩, ⟨(some 23), (.load false 1 (.tmp 22)), none⟩, ⟨(some 24), (.len 0 (.tmp 23)), none⟩, ⟨(some 25), (.mov (.const (.int .i64 0))), none⟩] false []) (.block 2 (.loop c58L1))) c58R2)
def c58 : ACode := (.seq (.region [⟨(some 1), (.box 2 (.tmp 0)), none⟩, ⟨(some 2), (.alloc [(.sc (.slice none 0 0)), (.sc (.slice none 0 0))]), none⟩] false []) (.seq (.region [⟨(some 3), (.alloc [(.sc (.slice none 0 0)), (.sc (.slice none 0 0))]), none⟩] false []) (.seq (.seq (.region [⟨(some 8), (.faddr 0 (.tmp 1)), none⟩, ⟨(some 9), (.load false 1 (.tmp 8)), none⟩, ⟨(some 10), (.len 0 (.tmp 9)), none⟩, ⟨(some 11), (.mov (.const (.int .i64 0))), none⟩] false []) (.block 0 (.loop c58L0))) c58R3)))
def r58 : List ARes := [(.cell 2 true 2)]
def c59 : ACode := (.seq (.region [⟨(some 2), (.mov (.const (.int .i64 0))), none⟩] false []) (.seq (.region [⟨(some 3), (.mov (.tmp 0)), none⟩, ⟨(some 4), (.nilck (.tmp 3)), none⟩, ⟨(some 5), (.faddr 0 (.tmp 4)), none⟩, ⟨(some 6), (.load false 1 (.tmp 5)), none⟩, ⟨(some 2), (.mov (.tmp 6)), none⟩] false []) .ret))
def r59 : List ARes := [(.tmp 2)]
def c60 : ACode := (.seq (.region [⟨(some 2), (.mov (.const (.slice none 0 0))), none⟩] false []) (.seq (.region [⟨(some 3), (.mov (.tmp 0)), none⟩, ⟨(some 4), (.nilck (.tmp 3)), none⟩, ⟨(some 5), (.faddr 2 (.tmp 4)), none⟩, ⟨(some 6), (.load false 1 (.tmp 5)), none⟩, ⟨(some 7), (.call (.func 111) [(.tmp 6)]), none⟩, ⟨(some 2), (.mov (.tmp 7)), none⟩] false []) .ret))
def r60 : List ARes := [(.tmp 2)]
def c61 : ACode := (.seq (.region [⟨(some 4), (.mov (.const (.int .i64 0))), none⟩, ⟨(some 5), (.mov (.const (.int .i64 0))), none⟩] false []) (.seq (.seq (.region [⟨(some 11), (.mov (.tmp 1)), none⟩, ⟨(some 12), (.bin .lss 3 (.tmp 11) (.const (.int .i64 1))), none⟩] false []) (.cond (.tmp 12) (.seq (.region [⟨(some 4), (.mov (.const (.int .i64 0))), none⟩, ⟨(some 5), (.mov (.const (.int .i64 1))), none⟩] false []) .ret) .skip)) (.seq (.seq (.region [⟨(some 14), (.mov (.tmp 0)), none⟩, ⟨(some 15), (.nilck (.tmp 14)), none⟩, ⟨(some 16), (.faddr 2 (.tmp 15)), none⟩, ⟨(some 17), (.load false 1 (.tmp 16)), none⟩, ⟨(some 18), (.mov (.tmp 1)), none⟩, ⟨(some 19), (.call (.func 54) [(.tmp 17), (.tmp 18)]), none⟩, ⟨(some 13), (.mov (.tmp 19)), none⟩, ⟨(some 20), (.ext (.tmp 13) 0), none⟩, ⟨(some 21), (.ext (.tmp 13) 1), none⟩, ⟨(some 22), (.ext (.tmp 13) 2), none⟩, ⟨(some 6), (.mov (.tmp 20)), none⟩, ⟨(some 7), (.mov (.tmp 21)), none⟩, ⟨(some 8), (.mov (.tmp 22)), none⟩] false []) (.seq (.region [⟨(some 23), (.mov (.tmp 8)), none⟩] false []) (.cond (.tmp 23) (.seq (.region [⟨(some 24), (.mov (.tmp 0)), none⟩, ⟨(some 25), (.mov (.tmp 7)), none⟩, ⟨(some 26), (.nilck (.tmp 24)), none⟩, ⟨(some 27), (.faddr 2 (.tmp 26)), none⟩, ⟨none, (.store 1 (.tmp 27) (.tmp 25)), none⟩] false []) (.seq (.region [⟨(some 28), (.mov (.tmp 6)), none⟩, ⟨(some 4), (.mov (.tmp 28)), none⟩, ⟨(some 5), (.mov (.const (.int .i64 0))), none⟩] false []) .ret)) .skip))) (.seq (.region [⟨(some 29), (.mov (.tmp 0)), none⟩, ⟨(some 30), (.call (.func 119) [(.tmp 29)]), none⟩, ⟨(some 9), (.mov (.tmp 30)), none⟩] false []) (.seq (.region [⟨(some 31), (.mov (.tmp 0)), none⟩, ⟨(some 32), (.nilck (.tmp 31)), none⟩, ⟨(some 33), (.faddr 0 (.tmp 32)), none⟩, ⟨(some 34), (.load false 1 (.tmp 33)), none⟩, ⟨(some 35), (.mov (.tmp 9)), none⟩, ⟨(some 36), (.bin .sub 3 (.tmp 34) (.tmp 35)), none⟩, ⟨(some 10), (.mov (.tmp 36)), none⟩] false []) (.seq (.seq (.region [⟨(some 37), (.mov (.tmp 1)), none⟩, ⟨(some 38), (.mov (.tmp 0)), none⟩, ⟨(some 39), (.nilck (.tmp 38)), none⟩, ⟨(some 40), (.faddr 1 (.tmp 39)), none⟩, ⟨(some 41), (.load false 1 (.tmp 40)), none⟩, ⟨(some 42), (.mov (.tmp 10)), none⟩, ⟨(some 43), (.bin .sub 3 (.tmp 41) (.tmp 42)), none⟩, ⟨(some 44), (.bin .gtr 3 (.tmp 37) (.tmp 43)), none⟩] false []) (.cond (.tmp 44) (.seq (.region [⟨(some 4), (.mov (.const (.int .i64 0))), none⟩, ⟨(some 5), (.mov (.const (.int .i64 12))), none⟩] false []) .ret) .skip)) (.seq (.seq (.region [⟨(some 45), (.mov (.tmp 9)), none⟩, ⟨(some 46), (.bin .gtr 3 (.tmp 45) (.const (.int .i64 0))), none⟩] false []) (.cond (.tmp 46) (.region [⟨(some 47), (.mov (.tmp 0)), none⟩, ⟨(some 48), (.mov (.tmp 0)), none⟩, ⟨(some 49), (.nilck (.tmp 48)), none⟩, ⟨(some 50), (.faddr 2 (.tmp 49)), none⟩, ⟨(some 51), (.load false 1 (.tmp 50)), none⟩, ⟨(some 52), (.mov (.tmp 0)), none⟩, ⟨(some 53), (.nilck (.tmp 52)), none⟩, ⟨(some 54), (.faddr 2 (.tmp 53)), none⟩, ⟨(some 55), (.load false 1 (.tmp 54)), none⟩, ⟨(some 56), (.len 0 (.tmp 55)), none⟩, ⟨(some 57), (.bin .sub 3 (.tmp 56) (.const (.int .i64 1))), none⟩, ⟨(some 58), (.slice 2 (.tmp 51) none (some (.tmp 57)) none), none⟩, ⟨(some 59), (.nilck (.tmp 47)), none⟩, ⟨(some 60), (.faddr 2 (.tmp 59)), none⟩, ⟨none, (.store 1 (.tmp 60) (.tmp 58)), none⟩] true []) .skip)) (.seq (.region [⟨(some 61), (.mov (.tmp 0)), none⟩, ⟨(some 62), (.mov (.tmp 10)), none⟩, ⟨(some 63), (.mov (.tmp 1)), none⟩, ⟨(some 64), (.bin .add 3 (.tmp 62) (.tmp 63)), none⟩, ⟨(some 65), (.nilck (.tmp 61)), none⟩, ⟨(some 66), (.faddr 0 (.tmp 65)), none⟩, ⟨none, (.store 1 (.tmp 66) (.tmp 64)), none⟩] false []) (.seq (.region [⟨(some 67), (.mov (.tmp 10)), none⟩, ⟨(some 4), (.mov (.tmp 67)), none⟩, ⟨(some 5), (.mov (.const (.int .i64 0))), none⟩] false []) .ret)))))))))
def r61 : List ARes := [(.tmp 4), (.tmp 5)]
def c62L0 : ACode := (.seq (.region [⟨(some 9), (.bin .lss 3 (.tmp 8) (.tmp 7)), none⟩] false []) (.seq (.cond (.tmp 9) .skip (.exit 0)) (.seq (.block 1 (.seq (.region [⟨(some 10), (.iaddr none 2 (.tmp 6) (.tmp 8)), none⟩, ⟨(some 11), (.load true 2 (.tmp 10)), none⟩, ⟨(some 5), (.alloc [(.sc (.int .i64 0)), (.sc (.int .i64 0))]), none⟩, ⟨none, (.store 2 (.tmp 5) (.tmp 11)), none⟩] false []) (.region [⟨(some 12), (.mov (.tmp 3)), none⟩, ⟨(some 13), (.load true 2 (.tmp 5)), none⟩, ⟨(some 14), (.bslice 2 [(.sc (.int .i64 0)), (.sc (.int .i64 0))] 1 [(0, (.tmp 13))]), none⟩, ⟨(some 15), (.app 2 16 (.tmp 12) (.tmp 14)), none⟩, ⟨(some 3), (.mov (.tmp 15)), none⟩] false []))) (.region [⟨(some 16), (.bin .add 3 (.tmp 8) (.const (.int .i64 1))), none⟩, ⟨(some 8), (.mov (.tmp 16)), none⟩] false []))))
def c62R1 : ACode := (.seq (.region [⟨(some 17), (.mov (.tmp 3)), none⟩, ⟨(some 2), (.mov (.tmp 17)), none⟩] false []) .ret)
def c62 : ACode := (.seq (.region [⟨(some 2), (.mov (.const (.slice none 0 0))), none⟩] false []) (.seq (.region [⟨(some 3), (.mov (.const (.slice none 0 0))), none⟩] false []) (.seq (.seq (.region [⟨(some 6), (.mov (.tmp 0)), none⟩, ⟨(some 7), (.len 0 (.tmp 6)), none⟩, ⟨(some 8), (.mov (.const (.int .i64 0))), none⟩] false []) (.block 0 (.loop c62L0))) c62R1)))
def r62 : List ARes := [(.tmp 2)]
def c63 : ACode := (.seq (.region [⟨(some 2), (.mov (.const (.slice none 0 0))), none⟩] false []) (.seq (.region [⟨(some 3), (.mov (.tmp 0)), none⟩, ⟨(some 4), (.call (.func 120) [(.tmp 3), (.func 121)]), none⟩, ⟨(some 2), (.mov (.tmp 4)), none⟩] false []) .ret))
def r63 : List ARes := [(.tmp 2)]
def c64 : ACode := (.seq (.region [⟨(some 5), (.box 2 (.tmp 2)), none⟩, ⟨(some 6), (.mov (.const (.int .i64 0))), none⟩] false []) (.seq (.region [⟨(some 8), (.load true 2 (.tmp 5)), none⟩, ⟨(some 9), (.bslice 2 [(.sc (.int .i64 0)), (.sc (.int .i64 0))] 1 [(0, (.tmp 8))]), none⟩, ⟨(some 7), (.mov (.tmp 9)), none⟩] false []) (.seq (.block 0 (.seq (.region [⟨(some 11), (.mov (.tmp 1)), none⟩, ⟨(some 12), (.bin .lss 3 (.tmp 11) (.const (.int .i64 0))), none⟩, ⟨(some 13), (.mov (.tmp 12)), none⟩, ⟨(some 14), (.mov (.tmp 7)), (some ((some 13), false))⟩, ⟨(some 15), (.call (.func 40) [(.tmp 14)]), (some ((some 13), false))⟩, ⟨(some 16), (.un .not (.tmp 15)), (some ((some 13), false))⟩, ⟨(some 17), (.pick (.tmp 13) (.const (.bool true)) (.tmp 16)), none⟩, ⟨(some 18), (.mov (.tmp 17)), none⟩, ⟨(some 19), (.faddr 0 (.tmp 5)), (some ((some 18), false))⟩, ⟨(some 20), (.load false 1 (.tmp 19)), (some ((some 18), false))⟩, ⟨(some 21), (.bin .lss 3 (.tmp 20) (.const (.int .i64 2))), (some ((some 18), false))⟩, ⟨(some 22), (.pick (.tmp 18) (.const (.bool true)) (.tmp 21)), none⟩, ⟨(some 23), (.mov (.tmp 22)), none⟩, ⟨(some 24), (.mov (.tmp 7)), (some ((some 23), false))⟩, ⟨(some 25), (.call (.func 43) [(.tmp 24)]), (some ((some 23), false))⟩, ⟨(some 26), (.mov (.tmp 0)), (some ((some 23), false))⟩, ⟨(some 27), (.nilck (.tmp 26)), (some ((some 23), false))⟩, ⟨(some 28), (.faddr 0 (.tmp 27)), (some ((some 23), false))⟩, ⟨(some 29), (.load false 1 (.tmp 28)), (some ((some 23), false))⟩, ⟨(some 30), (.bin .gtr 3 (.tmp 25) (.tmp 29)), (some ((some 23), false))⟩, ⟨(some 31), (.pick (.tmp 23) (.const (.bool true)) (.tmp 30)), none⟩, ⟨(some 10), (.mov (.tmp 31)), none⟩] true [(14, 18)]) (.cond (.tmp 10) (.seq (.region [⟨(some 6), (.mov (.const (.int .i64 1))), none⟩] false []) .ret) (.seq (.region [⟨(some 33), (.mov (.tmp 0)), none⟩, ⟨(some 34), (.nilck (.tmp 33)), none⟩, ⟨(some 35), (.faddr 2 (.tmp 34)), none⟩, ⟨(some 36), (.load false 1 (.tmp 35)), none⟩, ⟨(some 37), (.mov (.tmp 7)), none⟩, ⟨(some 38), (.call (.func 53) [(.tmp 36), (.tmp 37)]), none⟩, ⟨(some 39), (.mov (.tmp 38)), none⟩, ⟨(some 40), (.mov (.tmp 0)), (some ((some 39), false))⟩, ⟨(some 41), (.call (.func 63) [(.tmp 40)]), (some ((some 39), false))⟩, ⟨(some 42), (.mov (.tmp 7)), (some ((some 39), false))⟩, ⟨(some 43), (.call (.func 53) [(.tmp 41), (.tmp 42)]), (some ((some 39), false))⟩, ⟨(some 44), (.pick (.tmp 39) (.const (.bool true)) (.tmp 43)), none⟩, ⟨(some 32), (.mov (.tmp 44)), none⟩] false []) (.cond (.tmp 32) (.seq (.region [⟨(some 6), (.mov (.const (.int .i64 110))), none⟩] false []) .ret) .skip))))) (.seq (.region [⟨(some 45), (.mov (.tmp 0)), none⟩, ⟨(some 46), (.nilck (.tmp 45)), none⟩, ⟨(some 47), (.faddr 3 (.tmp 46)), none⟩, ⟨(some 48), (.load false 1 (.tmp 47)), none⟩, ⟨(some 49), (.mov (.tmp 1)), none⟩, ⟨(some 50), (.mov (.tmp 0)), none⟩, ⟨(some 51), (.nilck (.tmp 50)), none⟩, ⟨(some 52), (.faddr 3 (.tmp 51)), none⟩, ⟨(some 53), (.load false 1 (.tmp 52)), none⟩, ⟨(some 54), (.mov (.tmp 1)), none⟩, ⟨(some 55), (.look (some .i64) (.sc (.slice none 0 0)) (.tmp 53) (.tmp 54) false), none⟩, ⟨(some 56), (.mov (.tmp 7)), none⟩, ⟨(some 57), (.call (.func 52) [(.tmp 55), (.tmp 56)]), none⟩, ⟨none, (.mput (some .i64) (.tmp 48) (.tmp 49) (.tmp 57)), none⟩] true [(3, 12)]) (.seq (.region [⟨(some 6), (.mov (.const (.int .i64 0))), none⟩] false []) .ret)))))
def r64 : List ARes := [(.tmp 6)]
def c65 : ACode := (.seq (.region [⟨(some 4), (.box 1 (.tmp 1)), none⟩, ⟨(some 5), (.box 1 (.tmp 2)), none⟩] false []) (.seq (.region [⟨(some 7), (.mkfn (.func 122) [] [(.tmp 4), (.tmp 5)]), none⟩, ⟨(some 6), (.alloc [(.sc .nilFunc)]), none⟩, ⟨none, (.store 1 (.tmp 6) (.tmp 7)), none⟩] false []) (.seq (.region [⟨(some 8), (.mov (.tmp 0)), none⟩, ⟨(some 9), (.mov (.tmp 0)), none⟩, ⟨(some 10), (.nilck (.tmp 9)), none⟩, ⟨(some 11), (.faddr 2 (.tmp 10)), none⟩, ⟨(some 12), (.load false 1 (.tmp 11)), none⟩, ⟨(some 13), (.mov (.tmp 0)), none⟩, ⟨(some 14), (.load false 1 (.tmp 6)), none⟩, ⟨(some 15), (.call (.func 120) [(.tmp 13), (.tmp 14)]), none⟩, ⟨(some 16), (.call (.func 52) [(.tmp 12), (.tmp 15)]), none⟩, ⟨(some 17), (.nilck (.tmp 8)), none⟩, ⟨(some 18), (.faddr 2 (.tmp 17)), none⟩, ⟨none, (.store 1 (.tmp 18) (.tmp 16)), none⟩] true [(4, 7)]) (.region [⟨(some 19), (.mov (.tmp 0)), none⟩, ⟨(some 20), (.nilck (.tmp 19)), none⟩, ⟨(some 21), (.faddr 3 (.tmp 20)), none⟩, ⟨(some 22), (.load false 1 (.tmp 21)), none⟩, ⟨(some 23), (.mkfn (.func 124) [] [(.tmp 6)]), none⟩, ⟨(some 24), (.call (.func 123) [(.tmp 22), (.tmp 23)]), none⟩] false []))))
def r65 : List ARes := []
def c72 : ACode := (.seq (.region [⟨(some 4), (.mov (.const (.int .i64 0))), none⟩, ⟨(some 5), (.mov (.const (.int .i64 0))), none⟩] false []) (.seq (.block 0 (.seq (.region [⟨(some 7), (.mov (.tmp 1)), none⟩, ⟨(some 8), (.bin .lss 3 (.tmp 7) (.const (.int .i64 1))), none⟩, ⟨(some 6), (.mov (.tmp 8)), none⟩] false []) (.cond (.tmp 6) (.seq (.region [⟨(some 4), (.mov (.const (.int .i64 0))), none⟩, ⟨(some 5), (.mov (.const (.int .i64 1))), none⟩] false []) .ret) (.seq (.region [⟨(some 10), (.mov (.tmp 1)), none⟩, ⟨(some 11), (.mov (.tmp 0)), none⟩, ⟨(some 12), (.nilck (.tmp 11)), none⟩, ⟨(some 13), (.faddr 1 (.tmp 12)), none⟩, ⟨(some 14), (.load false 1 (.tmp 13)), none⟩, ⟨(some 15), (.mov (.tmp 0)), none⟩, ⟨(some 16), (.nilck (.tmp 15)), none⟩, ⟨(some 17), (.faddr 0 (.tmp 16)), none⟩, ⟨(some 18), (.load false 1 (.tmp 17)), none⟩, ⟨(some 19), (.bin .sub 3 (.tmp 14) (.tmp 18)), none⟩, ⟨(some 20), (.bin .gtr 3 (.tmp 10) (.tmp 19)), none⟩, ⟨(some 9), (.mov (.tmp 20)), none⟩] true []) (.cond (.tmp 9) (.seq (.region [⟨(some 4), (.mov (.const (.int .i64 0))), none⟩, ⟨(some 5), (.mov (.const (.int .i64 12))), none⟩] false []) .ret) .skip))))) (.seq (.region [⟨(some 21), (.mov (.tmp 0)), none⟩, ⟨(some 22), (.nilck (.tmp 21)), none⟩, ⟨(some 23), (.faddr 0 (.tmp 22)), none⟩, ⟨(some 24), (.load false 1 (.tmp 23)), none⟩, ⟨(some 25), (.mov (.tmp 1)), none⟩, ⟨(some 26), (.bin .add 3 (.tmp 24) (.tmp 25)), none⟩, ⟨(some 27), (.nilck (.tmp 21)), none⟩, ⟨(some 28), (.faddr 0 (.tmp 27)), none⟩, ⟨none, (.store 1 (.tmp 28) (.tmp 26)), none⟩] false []) (.seq (.region [⟨(some 29), (.mov (.tmp 0)), none⟩, ⟨(some 30), (.nilck (.tmp 29)), none⟩, ⟨(some 31), (.faddr 0 (.tmp 30)), none⟩, ⟨(some 32), (.load false 1 (.tmp 31)), none⟩, ⟨(some 33), (.mov (.tmp 1)), none⟩, ⟨(some 34), (.bin .sub 3 (.tmp 32) (.tmp 33)), none⟩, ⟨(some 4), (.mov (.tmp 34)), none⟩, ⟨(some 5), (.mov (.const (.int .i64 0))), none⟩] false []) .ret))))
def r72 : List ARes := [(.tmp 4), (.tmp 5)]
def c73L0 : ACode := (.seq (.region [⟨(some 31), (.mnxt (.tmp 30)), none⟩, ⟨(some 32), (.ext (.tmp 31) 0), none⟩] false []) (.seq (.cond (.tmp 32) .skip (.exit 0)) (.block 1 (.seq (.region [⟨(some 33), (.ment (.tmp 30)), none⟩, ⟨(some 34), (.ext (.tmp 33) 0), none⟩, ⟨(some 35), (.ext (.tmp 33) 1), none⟩, ⟨(some 4), (.mov (.tmp 34)), none⟩, ⟨(some 5), (.mov (.tmp 35)), none⟩] false []) (.region [⟨(some 36), (.mov (.tmp 3)), none⟩, ⟨(some 37), (.nilck (.tmp 36)), none⟩, ⟨(some 38), (.faddr 3 (.tmp 37)), none⟩, ⟨(some 39), (.load false 1 (.tmp 38)), none⟩, ⟨(some 40), (.mov (.tmp 4)), none⟩, ⟨(some 41), (.mov (.tmp 5)), none⟩, ⟨(some 42), (.call (.func 111) [(.tmp 41)]), none⟩, ⟨none, (.mput (some .i64) (.tmp 39) (.tmp 40) (.tmp 42)), none⟩] true [(3, 6)])))))
def c73R1 : ACode := (.seq (.region [⟨(some 43), (.mov (.tmp 3)), none⟩, ⟨(some 2), (.mov (.tmp 43)), none⟩] false []) .ret)
def c73 : ACode := (.seq (.region [⟨(some 2), (.mov (.const (.pointer none))), none⟩] false []) (.seq (.region [⟨(some 6), (.mov (.tmp 0)), none⟩, ⟨(some 7), (.nilck (.tmp 6)), none⟩, ⟨(some 8), (.faddr 0 (.tmp 7)), none⟩, ⟨(some 9), (.load false 1 (.tmp 8)), none⟩, ⟨(some 10), (.mov (.tmp 0)), none⟩, ⟨(some 11), (.nilck (.tmp 10)), none⟩, ⟨(some 12), (.faddr 1 (.tmp 11)), none⟩, ⟨(some 13), (.load false 1 (.tmp 12)), none⟩, ⟨(some 14), (.mov (.tmp 0)), none⟩, ⟨(some 15), (.nilck (.tmp 14)), none⟩, ⟨(some 16), (.faddr 2 (.tmp 15)), none⟩, ⟨(some 17), (.load false 1 (.tmp 16)), none⟩, ⟨(some 18), (.call (.func 111) [(.tmp 17)]), none⟩, ⟨(some 19), (.mov (.tmp 0)), none⟩, ⟨(some 20), (.nilck (.tmp 19)), none⟩, ⟨(some 21), (.faddr 3 (.tmp 20)), none⟩, ⟨(some 22), (.load false 1 (.tmp 21)), none⟩, ⟨(some 23), (.call (.func 132) [(.tmp 22)]), none⟩, ⟨(some 24), (.build [(.sc (.int .i64 0)), (.sc (.int .i64 0)), (.sc (.slice none 0 0)), (.sc (.map none))] [(0, (1, (.tmp 9))), (1, (1, (.tmp 13))), (2, (1, (.tmp 18))), (3, (1, (.tmp 23)))]), none⟩, ⟨(some 25), (.box 4 (.tmp 24)), none⟩, ⟨(some 3), (.mov (.tmp 25)), none⟩] true [(3, 12), (7, 12), (12, 16), (3, 17), (7, 17)]) (.seq (.seq (.region [⟨(some 26), (.mov (.tmp 3)), none⟩, ⟨(some 27), (.nilck (.tmp 26)), none⟩, ⟨(some 28), (.faddr 3 (.tmp 27)), none⟩, ⟨(some 29), (.load false 1 (.tmp 28)), none⟩, ⟨(some 30), (.mrng (.tmp 29)), none⟩] false []) (.block 0 (.loop c73L0))) c73R1)))
def r73 : List ARes := [(.tmp 2)]
def c74 : ACode := (.seq (.region [⟨(some 3), (.box 1 (.tmp 1)), none⟩, ⟨(some 4), (.alloc [(.sc (.slice none 0 0)), (.sc (.slice none 0 0))]), none⟩] false []) (.seq (.region [⟨(some 6), (.mov (.tmp 0)), none⟩, ⟨(some 7), (.mkfn (.func 133) [] [(.tmp 3)]), none⟩, ⟨(some 8), (.call (.func 120) [(.tmp 6), (.tmp 7)]), none⟩, ⟨(some 5), (.mov (.tmp 8)), none⟩] false []) (.seq (.region [⟨(some 9), (.mov (.tmp 0)), none⟩, ⟨(some 10), (.nilck (.tmp 9)), none⟩, ⟨(some 11), (.faddr 2 (.tmp 10)), none⟩, ⟨(some 12), (.load false 1 (.tmp 11)), none⟩, ⟨(some 13), (.mov (.tmp 5)), none⟩, ⟨(some 14), (.call (.func 52) [(.tmp 12), (.tmp 13)]), none⟩, ⟨(some 15), (.mov (.tmp 0)), none⟩, ⟨(some 16), (.nilck (.tmp 15)), none⟩, ⟨(some 17), (.faddr 3 (.tmp 16)), none⟩, ⟨(some 18), (.load false 1 (.tmp 17)), none⟩, ⟨(some 19), (.load false 1 (.tmp 3)), none⟩, ⟨(some 20), (.look (some .i64) (.sc (.slice none 0 0)) (.tmp 18) (.tmp 19) false), none⟩, ⟨(some 21), (.call (.func 111) [(.tmp 20)]), none⟩, ⟨(some 22), (.build [(.sc (.slice none 0 0)), (.sc (.slice none 0 0))] [(0, (1, (.tmp 14))), (1, (1, (.tmp 21)))]), none⟩, ⟨none, (.store 2 (.tmp 4) (.tmp 22)), none⟩] true [(5, 9), (5, 10), (5, 11)]) .ret)))
def r74 : List ARes := [(.cell 4 true 2)]
def c105 : ACode := (.seq (.region [⟨(some 2), (.mov (.const (.slice none 0 0))), none⟩] false []) (.seq (.seq (.region [⟨(some 3), (.mov (.tmp 0)), none⟩, ⟨(some 4), (.call (.func 40) [(.tmp 3)]), none⟩, ⟨(some 5), (.un .not (.tmp 4)), none⟩] false []) (.cond (.tmp 5) (.seq (.region [⟨(some 2), (.mov (.const (.slice none 0 0))), none⟩] false []) .ret) .skip)) (.seq (.region [⟨(some 6), (.mov (.tmp 0)), none⟩, ⟨(some 2), (.mov (.tmp 6)), none⟩] false []) .ret)))
def r105 : List ARes := [(.tmp 2)]
def c106 : ACode := (.seq (.region [⟨(some 1), (.box 2 (.tmp 0)), none⟩, ⟨(some 2), (.mov (.const (.bool false))), none⟩] false []) (.seq (.region [⟨(some 3), (.faddr 0 (.tmp 1)), none⟩, ⟨(some 4), (.load false 1 (.tmp 3)), none⟩, ⟨(some 5), (.bin .geq 3 (.tmp 4) (.const (.int .i64 0))), none⟩, ⟨(some 6), (.mov (.tmp 5)), none⟩, ⟨(some 7), (.faddr 1 (.tmp 1)), (some ((some 6), true))⟩, ⟨(some 8), (.load false 1 (.tmp 7)), (some ((some 6), true))⟩, ⟨(some 9), (.bin .geq 3 (.tmp 8) (.const (.int .i64 1))), (some ((some 6), true))⟩, ⟨(some 10), (.pick (.tmp 6) (.tmp 9) (.const (.bool false))), none⟩, ⟨(some 11), (.mov (.tmp 10)), none⟩, ⟨(some 12), (.faddr 0 (.tmp 1)), (some ((some 11), true))⟩, ⟨(some 13), (.load false 1 (.tmp 12)), (some ((some 11), true))⟩, ⟨(some 14), (.bin .leq 3 (.tmp 13) (.const (.int .i64 32768))), (some ((some 11), true))⟩, ⟨(some 15), (.pick (.tmp 11) (.tmp 14) (.const (.bool false))), none⟩, ⟨(some 16), (.mov (.tmp 15)), none⟩, ⟨(some 17), (.faddr 1 (.tmp 1)), (some ((some 16), true))⟩, ⟨(some 18), (.load false 1 (.tmp 17)), (some ((some 16), true))⟩, ⟨(some 19), (.faddr 0 (.tmp 1)), (some ((some 16), true))⟩, ⟨(some 20), (.load false 1 (.tmp 19)), (some ((some 16), true))⟩, ⟨(some 21), (.bin .sub 3 (.const (.int .i64 32768)) (.tmp 20)), (some ((some 16), true))⟩, ⟨(some 22), (.bin .leq 3 (.tmp 18) (.tmp 21)), (some ((some 16), true))⟩, ⟨(some 23), (.pick (.tmp 16) (.tmp 22) (.const (.bool false))), none⟩, ⟨(some 2), (.mov (.tmp 23)), none⟩] false []) .ret))
def r106 : List ARes := [(.tmp 2)]
def c107 : ACode := (.seq (.region [⟨(some 1), (.box 2 (.tmp 0)), none⟩, ⟨(some 2), (.mov (.const (.int .i64 0))), none⟩] false []) (.seq (.region [⟨(some 3), (.faddr 0 (.tmp 1)), none⟩, ⟨(some 4), (.load false 1 (.tmp 3)), none⟩, ⟨(some 5), (.faddr 1 (.tmp 1)), none⟩, ⟨(some 6), (.load false 1 (.tmp 5)), none⟩, ⟨(some 7), (.bin .add 3 (.tmp 4) (.tmp 6)), none⟩, ⟨(some 2), (.mov (.tmp 7)), none⟩] false []) .ret))
def r107 : List ARes := [(.tmp 2)]
def c108 : ACode := (.seq (.region [⟨(some 2), (.alloc [(.sc (.int .i64 0)), (.sc (.int .i64 0))]), none⟩, ⟨(some 3), (.mov (.const (.bool false))), none⟩] false []) (.seq (.region [⟨(some 4), (.alloc [(.sc (.int .i64 0)), (.sc (.int .i64 0))]), none⟩] false []) (.seq (.seq (.region [⟨(some 5), (.mov (.tmp 0)), none⟩, ⟨(some 6), (.len 0 (.tmp 5)), none⟩, ⟨(some 7), (.bin .eql 3 (.tmp 6) (.const (.int .i64 0))), none⟩] false []) (.cond (.tmp 7) (.seq (.region [⟨(some 8), (.load true 2 (.tmp 4)), none⟩, ⟨none, (.store 2 (.tmp 2) (.tmp 8)), none⟩, ⟨(some 3), (.mov (.const (.bool false))), none⟩] false []) .ret) .skip)) (.seq (.region [⟨(some 9), (.mov (.tmp 0)), none⟩, ⟨(some 10), (.mov (.tmp 0)), none⟩, ⟨(some 11), (.len 0 (.tmp 10)), none⟩, ⟨(some 12), (.bin .sub 3 (.tmp 11) (.const (.int .i64 1))), none⟩, ⟨(some 13), (.iaddr none 2 (.tmp 9) (.tmp 12)), none⟩, ⟨(some 14), (.load true 2 (.tmp 13)), none⟩, ⟨none, (.store 2 (.tmp 2) (.tmp 14)), none⟩, ⟨(some 3), (.mov (.const (.bool true))), none⟩] false []) .ret))))
def r108 : List ARes := [(.cell 2 true 2), (.tmp 3)]
def c109 : ACode := (.seq (.region [⟨(some 3), (.box 2 (.tmp 1)), none⟩, ⟨(some 4), (.mov (.const (.int .i64 0))), none⟩] false []) (.seq (.region [⟨(some 5), (.mov (.tmp 0)), none⟩, ⟨(some 6), (.mkfn (.func 158) [] [(.tmp 3)]), none⟩, ⟨(some 7), (.call (.func 116) [(.tmp 5), (.tmp 6)]), none⟩, ⟨(some 4), (.mov (.tmp 7)), none⟩] false []) .ret))
def r109 : List ARes := [(.tmp 4)]
def c110L0 : ACode := (.seq (.region [⟨(some 15), (.bin .lss 3 (.tmp 14) (.tmp 13)), none⟩] false []) (.seq (.cond (.tmp 15) .skip (.exit 0)) (.seq (.block 1 (.seq (.region [⟨(some 16), (.iaddr none 2 (.tmp 12) (.tmp 14)), none⟩, ⟨(some 17), (.load true 2 (.tmp 16)), none⟩, ⟨(some 6), (.alloc [(.sc (.int .i64 0)), (.sc (.int .i64 0))]), none⟩, ⟨none, (.store 2 (.tmp 6) (.tmp 17)), none⟩] false []) (.seq (.region [⟨(some 18), (.mov (.tmp 4)), none⟩, ⟨(some 19), (.len 0 (.tmp 18)), none⟩, ⟨(some 20), (.bin .sub 3 (.tmp 19) (.const (.int .i64 1))), none⟩, ⟨(some 7), (.mov (.tmp 20)), none⟩] false []) (.seq (.seq (.region [⟨(some 21), (.mov (.tmp 7)), none⟩, ⟨(some 22), (.bin .lss 3 (.tmp 21) (.const (.int .i64 0))), none⟩, ⟨(some 23), (.mov (.tmp 22)), none⟩, ⟨(some 24), (.faddr 0 (.tmp 6)), (some ((some 23), false))⟩, ⟨(some 25), (.load false 1 (.tmp 24)), (some ((some 23), false))⟩, ⟨(some 26), (.mov (.tmp 4)), (some ((some 23), false))⟩, ⟨(some 27), (.mov (.tmp 7)), (some ((some 23), false))⟩, ⟨(some 28), (.iaddr none 2 (.tmp 26) (.tmp 27)), (some ((some 23), false))⟩, ⟨(some 29), (.load true 2 (.tmp 28)), (some ((some 23), false))⟩, ⟨(some 30), (.call (.func 107) [(.tmp 29)]), (some ((some 23), false))⟩, ⟨(some 31), (.bin .gtr 3 (.tmp 25) (.tmp 30)), (some ((some 23), false))⟩, ⟨(some 32), (.pick (.tmp 23) (.const (.bool true)) (.tmp 31)), none⟩] true [(4, 9)]) (.cond (.tmp 32) (.seq (.region [⟨(some 33), (.mov (.tmp 4)), none⟩, ⟨(some 34), (.load true 2 (.tmp 6)), none⟩, ⟨(some 35), (.bslice 2 [(.sc (.int .i64 0)), (.sc (.int .i64 0))] 1 [(0, (.tmp 34))]), none⟩, ⟨(some 36), (.app 2 16 (.tmp 33) (.tmp 35)), none⟩, ⟨(some 4), (.mov (.tmp 36)), none⟩] false []) (.exit 1)) .skip)) (.region [⟨(some 37), (.mov (.tmp 4)), none⟩, ⟨(some 38), (.mov (.tmp 7)), none⟩, ⟨(some 39), (.mov (.tmp 4)), none⟩, ⟨(some 40), (.mov (.tmp 7)), none⟩, ⟨(some 41), (.iaddr none 2 (.tmp 39) (.tmp 40)), none⟩, ⟨(some 42), (.load true 2 (.tmp 41)), none⟩, ⟨(some 43), (.call (.func 107) [(.tmp 42)]), none⟩, ⟨(some 44), (.load true 2 (.tmp 6)), none⟩, ⟨(some 45), (.call (.func 107) [(.tmp 44)]), none⟩, ⟨(some 46), (.mx2 (.tmp 43) (.tmp 45)), none⟩, ⟨(some 47), (.mov (.tmp 4)), none⟩, ⟨(some 48), (.mov (.tmp 7)), none⟩, ⟨(some 49), (.iaddr none 2 (.tmp 47) (.tmp 48)), none⟩, ⟨(some 50), (.faddr 0 (.tmp 49)), none⟩, ⟨(some 51), (.load false 1 (.tmp 50)), none⟩, ⟨(some 52), (.bin .sub 3 (.tmp 46) (.tmp 51)), none⟩, ⟨(some 53), (.iaddr none 2 (.tmp 37) (.tmp 38)), none⟩, ⟨(some 54), (.faddr 1 (.tmp 53)), none⟩, ⟨none, (.store 1 (.tmp 54) (.tmp 52)), none⟩] true [(6, 7), (6, 12), (8, 12), (6, 14), (8, 14)]))))) (.region [⟨(some 55), (.bin .add 3 (.tmp 14) (.const (.int .i64 1))), none⟩, ⟨(some 14), (.mov (.tmp 55)), none⟩] false []))))
def c110R1 : ACode := (.seq (.region [⟨(some 56), (.mov (.tmp 4)), none⟩, ⟨(some 2), (.mov (.tmp 56)), none⟩] false []) .ret)
def c110 : ACode := (.seq (.region [⟨(some 2), (.mov (.const (.slice none 0 0))), none⟩] false []) (.seq (.region [⟨(some 8), (.mov (.tmp 0)), none⟩, ⟨(some 9), (.call (.func 111) [(.tmp 8)]), none⟩, ⟨(some 3), (.mov (.tmp 9)), none⟩] false []) (.seq (.region [⟨(some 10), (.mov (.tmp 3)), none⟩, ⟨(some 11), (.call (.func 159) [(.tmp 10), (.func 160)]), none⟩] false []) (.seq (.region [⟨(some 4), (.mov (.const (.slice none 0 0))), none⟩] false []) (.seq (.seq (.region [⟨(some 12), (.mov (.tmp 3)), none⟩, ⟨(some 13), (.len 0 (.tmp 12)), none⟩, ⟨(some 14), (.mov (.const (.int .i64 0))), none⟩] false []) (.block 0 (.loop c110L0))) c110R1)))))
def r110 : List ARes := [(.tmp 2)]
def c111 : ACode := (.seq (.region [⟨(some 2), (.mov (.const (.slice none 0 0))), none⟩] false []) (.seq (.seq (.region [⟨(some 3), (.mov (.tmp 0)), none⟩, ⟨(some 4), (.isnil false 0 (.tmp 3)), none⟩] false []) (.cond (.tmp 4) (.seq (.region [⟨(some 2), (.mov (.const (.slice none 0 0))), none⟩] false []) .ret) .skip)) (.seq (.region [⟨(some 5), (.bslice 2 [(.sc (.int .i64 0)), (.sc (.int .i64 0))] 0 []), none⟩, ⟨(some 6), (.mov (.tmp 0)), none⟩, ⟨(some 7), (.app 2 16 (.tmp 5) (.tmp 6)), none⟩, ⟨(some 2), (.mov (.tmp 7)), none⟩] false []) .ret)))
def r111 : List ARes := [(.tmp 2)]
def c112 : ACode := (.seq (.region [⟨(some 8), (.mov (.const (.slice none 0 0))), none⟩] false []) (.seq (.region [⟨(some 15), (.mov (.tmp 0)), none⟩, ⟨(some 16), (.mov (.tmp 1)), none⟩, ⟨(some 17), (.mov (.tmp 2)), none⟩, ⟨(some 18), (.slice 2 (.tmp 15) (some (.tmp 16)) (some (.tmp 17)) none), none⟩] false []) (.seq (.seq (.region [⟨(some 19), (.mov (.tmp 1)), none⟩, ⟨(some 20), (.mov (.tmp 2)), none⟩, ⟨(some 21), (.bin .eql 3 (.tmp 19) (.tmp 20)), none⟩] false []) (.cond (.tmp 21) (.seq (.region [⟨(some 22), (.mov (.tmp 0)), none⟩, ⟨(some 23), (.mov (.tmp 1)), none⟩, ⟨(some 24), (.mov (.tmp 3)), none⟩, ⟨(some 25), (.call (.func 161) [(.tmp 22), (.tmp 23), (.tmp 24)]), none⟩, ⟨(some 8), (.mov (.tmp 25)), none⟩] false []) .ret) .skip)) (.seq (.seq (.region [⟨(some 26), (.mov (.tmp 2)), none⟩, ⟨(some 27), (.mov (.tmp 0)), none⟩, ⟨(some 28), (.len 0 (.tmp 27)), none⟩, ⟨(some 29), (.bin .eql 3 (.tmp 26) (.tmp 28)), none⟩] false []) (.cond (.tmp 29) (.seq (.region [⟨(some 30), (.mov (.tmp 0)), none⟩, ⟨(some 31), (.mov (.tmp 1)), none⟩, ⟨(some 32), (.slice 2 (.tmp 30) none (some (.tmp 31)) none), none⟩, ⟨(some 33), (.mov (.tmp 3)), none⟩, ⟨(some 34), (.app 2 16 (.tmp 32) (.tmp 33)), none⟩, ⟨(some 9), (.mov (.tmp 34)), none⟩] false []) (.seq (.seq (.region [⟨(some 35), (.mov (.tmp 9)), none⟩, ⟨(some 36), (.len 0 (.tmp 35)), none⟩, ⟨(some 37), (.mov (.tmp 0)), none⟩, ⟨(some 38), (.len 0 (.tmp 37)), none⟩, ⟨(some 39), (.bin .lss 3 (.tmp 36) (.tmp 38)), none⟩] false []) (.cond (.tmp 39) (.region [⟨(some 40), (.mov (.tmp 0)), none⟩, ⟨(some 41), (.mov (.tmp 9)), none⟩, ⟨(some 42), (.len 0 (.tmp 41)), none⟩, ⟨(some 43), (.slice 2 (.tmp 40) (some (.tmp 42)) none none), none⟩, ⟨none, (.clr 2 [(.sc (.int .i64 0)), (.sc (.int .i64 0))] (.tmp 43)), none⟩] false []) .skip)) (.seq (.region [⟨(some 44), (.mov (.tmp 9)), none⟩, ⟨(some 8), (.mov (.tmp 44)), none⟩] false []) .ret))) .skip)) (.seq (.region [⟨(some 45), (.mov (.tmp 0)), none⟩, ⟨(some 46), (.mov (.tmp 1)), none⟩, ⟨(some 47), (.slice 2 (.tmp 45) none (some (.tmp 46)) none), none⟩, ⟨(some 48), (.len 0 (.tmp 47)), none⟩, ⟨(some 49), (.mov (.tmp 3)), none⟩, ⟨(some 50), (.len 0 (.tmp 49)), none⟩, ⟨(some 51), (.bin .add 3 (.tmp 48) (.tmp 50)), none⟩, ⟨(some 52), (.mov (.tmp 0)), none⟩, ⟨(some 53), (.mov (.tmp 2)), none⟩, ⟨(some 54), (.slice 2 (.tmp 52) (some (.tmp 53)) none none), none⟩, ⟨(some 55), (.len 0 (.tmp 54)), none⟩, ⟨(some 56), (.bin .add 3 (.tmp 51) (.tmp 55)), none⟩, ⟨(some 10), (.mov (.tmp 56)), none⟩] true []) (.seq (.seq (.region [⟨(some 57), (.mov (.tmp 10)), none⟩, ⟨(some 58), (.mov (.tmp 0)), none⟩, ⟨(some 59), (.cap (.tmp 58)), none⟩, ⟨(some 60), (.bin .gtr 3 (.tmp 57) (.tmp 59)), none⟩] false []) (.cond (.tmp 60) (.seq (.region [⟨(some 61), (.mov (.tmp 0)), none⟩, ⟨(some 62), (.mov (.tmp 1)), none⟩, ⟨(some 63), (.slice 2 (.tmp 61) none (some (.tmp 62)) none), none⟩, ⟨(some 64), (.mov (.tmp 10)), none⟩, ⟨(some 65), (.mov (.tmp 1)), none⟩, ⟨(some 66), (.bin .sub 3 (.tmp 64) (.tmp 65)), none⟩, ⟨(some 67), (.appz 2 16 [(.sc (.int .i64 0)), (.sc (.int .i64 0))] (.tmp 63) (.tmp 66)), none⟩, ⟨(some 11), (.mov (.tmp 67)), none⟩] false []) (.seq (.region [⟨(some 68), (.mov (.tmp 11)), none⟩, ⟨(some 69), (.mov (.tmp 1)), none⟩, ⟨(some 70), (.slice 2 (.tmp 68) (some (.tmp 69)) none none), none⟩, ⟨(some 71), (.mov (.tmp 3)), none⟩, ⟨(some 72), (.copy 2 (.tmp 70) (.tmp 71)), none⟩] false []) (.seq (.region [⟨(some 73), (.mov (.tmp 11)), none⟩, ⟨(some 74), (.mov (.tmp 1)), none⟩, ⟨(some 75), (.mov (.tmp 3)), none⟩, ⟨(some 76), (.len 0 (.tmp 75)), none⟩, ⟨(some 77), (.bin .add 3 (.tmp 74) (.tmp 76)), none⟩, ⟨(some 78), (.slice 2 (.tmp 73) (some (.tmp 77)) none none), none⟩, ⟨(some 79), (.mov (.tmp 0)), none⟩, ⟨(some 80), (.mov (.tmp 2)), none⟩, ⟨(some 81), (.slice 2 (.tmp 79) (some (.tmp 80)) none none), none⟩, ⟨(some 82), (.copy 2 (.tmp 78) (.tmp 81)), none⟩] true []) (.seq (.region [⟨(some 83), (.mov (.tmp 11)), none⟩, ⟨(some 8), (.mov (.tmp 83)), none⟩] false []) .ret)))) .skip)) (.seq (.region [⟨(some 84), (.mov (.tmp 0)), none⟩, ⟨(some 85), (.mov (.tmp 10)), none⟩, ⟨(some 86), (.slice 2 (.tmp 84) none (some (.tmp 85)) none), none⟩, ⟨(some 12), (.mov (.tmp 86)), none⟩] false []) (.seq (.seq (.region [⟨(some 87), (.mov (.tmp 1)), none⟩, ⟨(some 88), (.mov (.tmp 3)), none⟩, ⟨(some 89), (.len 0 (.tmp 88)), none⟩, ⟨(some 90), (.bin .add 3 (.tmp 87) (.tmp 89)), none⟩, ⟨(some 91), (.mov (.tmp 2)), none⟩, ⟨(some 92), (.bin .leq 3 (.tmp 90) (.tmp 91)), none⟩] false []) (.cond (.tmp 92) (.seq (.region [⟨(some 93), (.mov (.tmp 12)), none⟩, ⟨(some 94), (.mov (.tmp 1)), none⟩, ⟨(some 95), (.slice 2 (.tmp 93) (some (.tmp 94)) none none), none⟩, ⟨(some 96), (.mov (.tmp 3)), none⟩, ⟨(some 97), (.copy 2 (.tmp 95) (.tmp 96)), none⟩] false []) (.seq (.region [⟨(some 98), (.mov (.tmp 12)), none⟩, ⟨(some 99), (.mov (.tmp 1)), none⟩, ⟨(some 100), (.mov (.tmp 3)), none⟩, ⟨(some 101), (.len 0 (.tmp 100)), none⟩, ⟨(some 102), (.bin .add 3 (.tmp 99) (.tmp 101)), none⟩, ⟨(some 103), (.slice 2 (.tmp 98) (some (.tmp 102)) none none), none⟩, ⟨(some 104), (.mov (.tmp 0)), none⟩, ⟨(some 105), (.mov (.tmp 2)), none⟩, ⟨(some 106), (.slice 2 (.tmp 104) (some (.tmp 105)) none none), none⟩, ⟨(some 107), (.copy 2 (.tmp 103) (.tmp 106)), none⟩] true []) (.seq (.region [⟨(some 108), (.mov (.tmp 0)), none⟩, ⟨(some 109), (.mov (.tmp 10)), none⟩, ⟨(some 110), (.slice 2 (.tmp 108) (some (.tmp 109)) none none), none⟩, ⟨none, (.clr 2 [(.sc (.int .i64 0)), (.sc (.int .i64 0))] (.tmp 110)), none⟩] false []) (.seq (.region [⟨(some 111), (.mov (.tmp 12)), none⟩, ⟨(some 8), (.mov (.tmp 111)), none⟩] false []) .ret)))) .skip)) (.seq (.seq (.region [⟨(some 112), (.mov (.tmp 12)), none⟩, ⟨(some 113), (.mov (.tmp 1)), none⟩, ⟨(some 114), (.mov (.tmp 3)), none⟩, ⟨(some 115), (.len 0 (.tmp 114)), none⟩, ⟨(some 116), (.bin .add 3 (.tmp 113) (.tmp 115)), none⟩, ⟨(some 117), (.slice 2 (.tmp 112) (some (.tmp 116)) none none), none⟩, ⟨(some 118), (.mov (.tmp 3)), none⟩, ⟨(some 119), (.call (.func 162) [(.tmp 117), (.tmp 118)]), none⟩, ⟨(some 120), (.un .not (.tmp 119)), none⟩] false []) (.cond (.tmp 120) (.seq (.region [⟨(some 121), (.mov (.tmp 12)), none⟩, ⟨(some 122), (.mov (.tmp 1)), none⟩, ⟨(some 123), (.mov (.tmp 3)), none⟩, ⟨(some 124), (.len 0 (.tmp 123)), none⟩, ⟨(some 125), (.bin .add 3 (.tmp 122) (.tmp 124)), none⟩, ⟨(some 126), (.slice 2 (.tmp 121) (some (.tmp 125)) none none), none⟩, ⟨(some 127), (.mov (.tmp 0)), none⟩, ⟨(some 128), (.mov (.tmp 2)), none⟩, ⟨(some 129), (.slice 2 (.tmp 127) (some (.tmp 128)) none none), none⟩, ⟨(some 130), (.copy 2 (.tmp 126) (.tmp 129)), none⟩] true []) (.seq (.region [⟨(some 131), (.mov (.tmp 12)), none⟩, ⟨(some 132), (.mov (.tmp 1)), none⟩, ⟨(some 133), (.slice 2 (.tmp 131) (some (.tmp 132)) none none), none⟩, ⟨(some 134), (.mov (.tmp 3)), none⟩, ⟨(some 135), (.copy 2 (.tmp 133) (.tmp 134)), none⟩] false []) (.seq (.region [⟨(some 136), (.mov (.tmp 12)), none⟩, ⟨(some 8), (.mov (.tmp 136)), none⟩] false []) .ret))) .skip)) (.seq (.region [⟨(some 137), (.mov (.tmp 3)), none⟩, ⟨(some 138), (.len 0 (.tmp 137)), none⟩, ⟨(some 139), (.mov (.tmp 2)), none⟩, ⟨(some 140), (.mov (.tmp 1)), none⟩, ⟨(some 141), (.bin .sub 3 (.tmp 139) (.tmp 140)), none⟩, ⟨(some 142), (.bin .sub 3 (.tmp 138) (.tmp 141)), none⟩, ⟨(some 13), (.mov (.tmp 142)), none⟩] false []) (.seq (.seq (.region [⟨(some 143), (.mov (.tmp 12)), none⟩, ⟨(some 144), (.mov (.tmp 1)), none⟩, ⟨(some 145), (.mov (.tmp 2)), none⟩, ⟨(some 146), (.slice 2 (.tmp 143) (some (.tmp 144)) (some (.tmp 145)) none), none⟩, ⟨(some 147), (.mov (.tmp 3)), none⟩, ⟨(some 148), (.call (.func 162) [(.tmp 146), (.tmp 147)]), none⟩, ⟨(some 149), (.un .not (.tmp 148)), none⟩] false []) (.cond (.tmp 149) (.seq (.region [⟨(some 150), (.mov (.tmp 12)), none⟩, ⟨(some 151), (.mov (.tmp 1)), none⟩, ⟨(some 152), (.mov (.tmp 2)), none⟩, ⟨(some 153), (.slice 2 (.tmp 150) (some (.tmp 151)) (some (.tmp 152)) none), none⟩, ⟨(some 154), (.mov (.tmp 3)), none⟩, ⟨(some 155), (.mov (.tmp 13)), none⟩, ⟨(some 156), (.slice 2 (.tmp 154) (some (.tmp 155)) none none), none⟩, ⟨(some 157), (.copy 2 (.tmp 153) (.tmp 156)), none⟩] true []) (.seq (.region [⟨(some 158), (.mov (.tmp 12)), none⟩, ⟨(some 159), (.mov (.tmp 0)), none⟩, ⟨(some 160), (.len 0 (.tmp 159)), none⟩, ⟨(some 161), (.slice 2 (.tmp 158) (some (.tmp 160)) none none), none⟩, ⟨(some 162), (.mov (.tmp 3)), none⟩, ⟨(some 163), (.mov (.tmp 13)), none⟩, ⟨(some 164), (.slice 2 (.tmp 162) none (some (.tmp 163)) none), none⟩, ⟨(some 165), (.copy 2 (.tmp 161) (.tmp 164)), none⟩] true []) (.seq (.region [⟨(some 166), (.mov (.tmp 12)), none⟩, ⟨(some 167), (.mov (.tmp 1)), none⟩, ⟨(some 168), (.slice 2 (.tmp 166) (some (.tmp 167)) none none), none⟩, ⟨(some 169), (.mov (.tmp 13)), none⟩, ⟨(some 170), (.call (.func 163) [(.tmp 168), (.tmp 169)]), none⟩] false []) (.seq (.region [⟨(some 171), (.mov (.tmp 12)), none⟩, ⟨(some 8), (.mov (.tmp 171)), none⟩] false []) .ret)))) .skip)) (.seq (.seq (.region [⟨(some 172), (.mov (.tmp 12)), none⟩, ⟨(some 173), (.mov (.tmp 0)), none⟩, ⟨(some 174), (.len 0 (.tmp 173)), none⟩, ⟨(some 175), (.slice 2 (.tmp 172) (some (.tmp 174)) none none), none⟩, ⟨(some 176), (.mov (.tmp 3)), none⟩, ⟨(some 177), (.call (.func 162) [(.tmp 175), (.tmp 176)]), none⟩, ⟨(some 178), (.un .not (.tmp 177)), none⟩] false []) (.cond (.tmp 178) (.seq (.region [⟨(some 179), (.mov (.tmp 12)), none⟩, ⟨(some 180), (.mov (.tmp 0)), none⟩, ⟨(some 181), (.len 0 (.tmp 180)), none⟩, ⟨(some 182), (.slice 2 (.tmp 179) (some (.tmp 181)) none none), none⟩, ⟨(some 183), (.mov (.tmp 3)), none⟩, ⟨(some 184), (.mov (.tmp 13)), none⟩, ⟨(some 185), (.slice 2 (.tmp 183) none (some (.tmp 184)) none), none⟩, ⟨(some 186), (.copy 2 (.tmp 182) (.tmp 185)), none⟩] true []) (.seq (.region [⟨(some 187), (.mov (.tmp 12)), none⟩, ⟨(some 188), (.mov (.tmp 1)), none⟩, ⟨(some 189), (.mov (.tmp 2)), none⟩, ⟨(some 190), (.slice 2 (.tmp 187) (some (.tmp 188)) (some (.tmp 189)) none), none⟩, ⟨(some 191), (.mov (.tmp 3)), none⟩, ⟨(some 192), (.mov (.tmp 13)), none⟩, ⟨(some 193), (.slice 2 (.tmp 191) (some (.tmp 192)) none none), none⟩, ⟨(some 194), (.copy 2 (.tmp 190) (.tmp 193)), none⟩] true []) (.seq (.region [⟨(some 195), (.mov (.tmp 12)), none⟩, ⟨(some 196), (.mov (.tmp 1)), none⟩, ⟨(some 197), (.slice 2 (.tmp 195) (some (.tmp 196)) none none), none⟩, ⟨(some 198), (.mov (.tmp 13)), none⟩, ⟨(some 199), (.call (.func 163) [(.tmp 197), (.tmp 198)]), none⟩] false []) (.seq (.region [⟨(some 200), (.mov (.tmp 12)), none⟩, ⟨(some 8), (.mov (.tmp 200)), none⟩] false []) .ret)))) .skip)) (.seq (.region [⟨(some 201), (.mov (.tmp 3)), none⟩, ⟨(some 202), (.mov (.tmp 0)), none⟩, ⟨(some 203), (.mov (.tmp 2)), none⟩, ⟨(some 204), (.slice 2 (.tmp 202) (some (.tmp 203)) none none), none⟩, ⟨(some 205), (.call (.func 164) [(.tmp 201), (.tmp 204)]), none⟩, ⟨(some 14), (.mov (.tmp 205)), none⟩] false []) (.seq (.region [⟨(some 206), (.mov (.tmp 12)), none⟩, ⟨(some 207), (.mov (.tmp 1)), none⟩, ⟨(some 208), (.slice 2 (.tmp 206) (some (.tmp 207)) none none), none⟩, ⟨(some 209), (.mov (.tmp 3)), none⟩, ⟨(some 210), (.copy 2 (.tmp 208) (.tmp 209)), none⟩] false []) (.seq (.region [⟨(some 211), (.mov (.tmp 12)), none⟩, ⟨(some 212), (.mov (.tmp 1)), none⟩, ⟨(some 213), (.mov (.tmp 3)), none⟩, ⟨(some 214), (.len 0 (.tmp 213)), none⟩, ⟨(some 215), (.bin .add 3 (.tmp 212) (.tmp 214)), none⟩, ⟨(some 216), (.slice 2 (.tmp 211) (some (.tmp 215)) none none), none⟩, ⟨(some 217), (.mov (.tmp 12)), none⟩, ⟨(some 218), (.mov (.tmp 1)), none⟩, ⟨(some 219), (.mov (.tmp 14)), none⟩, ⟨(some 220), (.bin .add 3 (.tmp 218) (.tmp 219)), none⟩, ⟨(some 221), (.slice 2 (.tmp 217) (some (.tmp 220)) none none), none⟩, ⟨(some 222), (.copy 2 (.tmp 216) (.tmp 221)), none⟩] true []) (.seq (.region [⟨(some 223), (.mov (.tmp 12)), none⟩, ⟨(some 8), (.mov (.tmp 223)), none⟩] false []) .ret))))))))))))))))
def r112 : List ARes := [(.tmp 8)]
def c113L0 : ACode := (.seq (.region [⟨(some 12), (.bin .lss 3 (.tmp 11) (.tmp 10)), none⟩] false []) (.seq (.cond (.tmp 12) .skip (.exit 0)) (.seq (.block 1 (.seq (.region [⟨(some 13), (.iaddr none 1 (.tmp 9) (.tmp 11)), none⟩, ⟨(some 14), (.load false 1 (.tmp 13)), none⟩, ⟨(some 5), (.mov (.tmp 14)), none⟩] false []) (.seq (.region [⟨(some 15), (.mov (.tmp 3)), none⟩, ⟨(some 16), (.mov (.tmp 5)), none⟩, ⟨(some 17), (.len 0 (.tmp 16)), none⟩, ⟨(some 18), (.bin .add 3 (.tmp 15) (.tmp 17)), none⟩, ⟨(some 3), (.mov (.tmp 18)), none⟩] false []) (.seq (.region [⟨(some 19), (.mov (.tmp 3)), none⟩, ⟨(some 20), (.bin .lss 3 (.tmp 19) (.const (.int .i64 0))), none⟩] false []) (.cond (.tmp 20) (.region [⟨(some 21), .stop, none⟩, ⟨none, .stop, none⟩] false []) .skip))))) (.region [⟨(some 22), (.bin .add 3 (.tmp 11) (.const (.int .i64 1))), none⟩, ⟨(some 11), (.mov (.tmp 22)), none⟩] false []))))
def c113L1 : ACode := (.seq (.region [⟨(some 28), (.bin .lss 3 (.tmp 27) (.tmp 26)), none⟩] false []) (.seq (.cond (.tmp 28) .skip (.exit 2)) (.seq (.block 3 (.seq (.region [⟨(some 29), (.iaddr none 1 (.tmp 25) (.tmp 27)), none⟩, ⟨(some 30), (.load false 1 (.tmp 29)), none⟩, ⟨(some 8), (.mov (.tmp 30)), none⟩] false []) (.region [⟨(some 31), (.mov (.tmp 6)), none⟩, ⟨(some 32), (.mov (.tmp 8)), none⟩, ⟨(some 33), (.app 2 16 (.tmp 31) (.tmp 32)), none⟩, ⟨(some 6), (.mov (.tmp 33)), none⟩] false []))) (.region [⟨(some 34), (.bin .add 3 (.tmp 27) (.const (.int .i64 1))), none⟩, ⟨(some 27), (.mov (.tmp 34)), none⟩] false []))))
def c113R2 : ACode := (.seq (.region [⟨(some 35), (.mov (.tmp 6)), none⟩, ⟨(some 2), (.mov (.tmp 35)), none⟩] false []) .ret)
def c113R3 : ACode := (.seq (.region [⟨(some 23), (.mov (.tmp 3)), none⟩, ⟨(some 24), (.call (.func 165) [(.const (.slice none 0 0)), (.tmp 23)]), none⟩, ⟨(some 6), (.mov (.tmp 24)), none⟩] false []) (.seq (.seq (.region [⟨(some 25), (.mov (.tmp 0)), none⟩, ⟨(some 26), (.len 0 (.tmp 25)), none⟩, ⟨(some 27), (.mov (.const (.int .i64 0))), none⟩] false []) (.block 2 (.loop c113L1))) c113R2))
def c113 : ACode := (.seq (.region [⟨(some 2), (.mov (.const (.slice none 0 0))), none⟩] false []) (.seq (.region [⟨(some 3), (.mov (.const (.int .i64 0))), none⟩] false []) (.seq (.seq (.region [⟨(some 9), (.mov (.tmp 0)), none⟩, ⟨(some 10), (.len 0 (.tmp 9)), none⟩, ⟨(some 11), (.mov (.const (.int .i64 0))), none⟩] false []) (.block 0 (.loop c113L0))) c113R3)))
def r113 : List ARes := [(.tmp 2)]
def c114 : ACode := (.seq (.region [⟨(some 4), (.mov (.const (.bool false))), none⟩] false []) (.seq (.region [⟨(some 5), (.mov (.tmp 0)), none⟩, ⟨(some 6), (.mov (.tmp 1)), none⟩, ⟨(some 7), (.call (.func 116) [(.tmp 5), (.tmp 6)]), none⟩, ⟨(some 8), (.bin .geq 3 (.tmp 7) (.const (.int .i64 0))), none⟩, ⟨(some 4), (.mov (.tmp 8)), none⟩] false []) .ret))
def r114 : List ARes := [(.tmp 4)]
def c115 : ACode := (.seq (.region [⟨(some 2), (.box 2 (.tmp 0)), none⟩, ⟨(some 3), (.mov (.const (.bool false))), none⟩] false []) (.seq (.region [⟨(some 4), (.load false 1 (.tmp 1)), none⟩, ⟨(some 5), (.load true 2 (.tmp 2)), none⟩, ⟨(some 6), (.call (.func 109) [(.tmp 4), (.tmp 5)]), none⟩, ⟨(some 7), (.bin .geq 3 (.tmp 6) (.const (.int .i64 0))), none⟩, ⟨(some 3), (.mov (.tmp 7)), none⟩] false []) .ret))
def r115 : List ARes := [(.tmp 3)]
def c116L0 : ACode := (.seq (.region [⟨(some 9), (.bin .lss 3 (.tmp 8) (.tmp 7)), none⟩] false []) (.seq (.cond (.tmp 9) .skip (.exit 0)) (.seq (.block 1 (.seq (.region [⟨(some 10), (.mov (.tmp 8)), none⟩, ⟨(some 5), (.mov (.tmp 10)), none⟩] false []) (.seq (.region [⟨(some 11), (.mov (.tmp 1)), none⟩, ⟨(some 12), (.mov (.tmp 0)), none⟩, ⟨(some 13), (.mov (.tmp 5)), none⟩, ⟨(some 14), (.iaddr none 2 (.tmp 12) (.tmp 13)), none⟩, ⟨(some 15), (.load true 2 (.tmp 14)), none⟩, ⟨(some 16), (.call (.tmp 11) [(.tmp 15)]), none⟩] false []) (.cond (.tmp 16) (.seq (.region [⟨(some 17), (.mov (.tmp 5)), none⟩, ⟨(some 4), (.mov (.tmp 17)), none⟩] false []) .ret) .skip)))) (.region [⟨(some 18), (.bin .add 3 (.tmp 8) (.const (.int .i64 1))), none⟩, ⟨(some 8), (.mov (.tmp 18)), none⟩] false []))))
def c116R1 : ACode := (.seq (.region [⟨(some 4), (.mov (.const (.int .i64 (-1)))), none⟩] false []) .ret)
def c116 : ACode := (.seq (.region [⟨(some 4), (.mov (.const (.int .i64 0))), none⟩] false []) (.seq (.seq (.region [⟨(some 6), (.mov (.tmp 0)), none⟩, ⟨(some 7), (.len 0 (.tmp 6)), none⟩, ⟨(some 8), (.mov (.const (.int .i64 0))), none⟩] false []) (.block 0 (.loop c116L0))) c116R1))
def r116 : List ARes := [(.tmp 4)]
def c117 : ACode := (.seq (.region [⟨(some 2), (.box 2 (.tmp 0)), none⟩, ⟨(some 3), (.mov (.const (.bool false))), none⟩] false []) (.seq (.region [⟨(some 4), (.load false 1 (.tmp 1)), none⟩, ⟨(some 5), (.bin .geq 3 (.tmp 4) (.const (.int .i64 1))), none⟩, ⟨(some 6), (.mov (.tmp 5)), none⟩, ⟨(some 7), (.faddr 1 (.tmp 2)), (some ((some 6), true))⟩, ⟨(some 8), (.load false 1 (.tmp 7)), (some ((some 6), true))⟩, ⟨(some 9), (.load false 1 (.tmp 1)), (some ((some 6), true))⟩, ⟨(some 10), (.bin .geq 3 (.tmp 8) (.tmp 9)), (some ((some 6), true))⟩, ⟨(some 11), (.pick (.tmp 6) (.tmp 10) (.const (.bool false))), none⟩, ⟨(some 3), (.mov (.tmp 11)), none⟩] false []) .ret))
def r117 : List ARes := [(.tmp 3)]
def c118 : ACode := (.seq (.region [⟨(some 1), (.box 2 (.tmp 0)), none⟩, ⟨(some 2), (.mov (.const (.bool false))), none⟩] false []) (.seq (.region [⟨(some 3), (.faddr 0 (.tmp 1)), none⟩, ⟨(some 4), (.load false 1 (.tmp 3)), none⟩, ⟨(some 5), (.call (.func 166) [(.tmp 4)]), none⟩, ⟨(some 6), (.mov (.tmp 5)), none⟩, ⟨(some 7), (.faddr 1 (.tmp 1)), (some ((some 6), true))⟩, ⟨(some 8), (.load false 1 (.tmp 7)), (some ((some 6), true))⟩, ⟨(some 9), (.call (.func 166) [(.tmp 8)]), (some ((some 6), true))⟩, ⟨(some 10), (.pick (.tmp 6) (.tmp 9) (.const (.bool false))), none⟩, ⟨(some 11), (.mov (.tmp 10)), none⟩, ⟨(some 12), (.faddr 0 (.tmp 1)), (some ((some 11), true))⟩, ⟨(some 13), (.load false 1 (.tmp 12)), (some ((some 11), true))⟩, ⟨(some 14), (.faddr 1 (.tmp 1)), (some ((some 11), true))⟩, ⟨(some 15), (.load false 1 (.tmp 14)), (some ((some 11), true))⟩, ⟨(some 16), (.call (.func 53) [(.tmp 13), (.tmp 15)]), (some ((some 11), true))⟩, ⟨(some 17), (.un .not (.tmp 16)), (some ((some 11), true))⟩, ⟨(some 18), (.pick (.tmp 11) (.tmp 17) (.const (.bool false))), none⟩, ⟨(some 2), (.mov (.tmp 18)), none⟩] false []) .ret))
def r118 : List ARes := [(.tmp 2)]
def c119 : ACode := (.seq (.region [⟨(some 2), (.mov (.const (.int .i64 0))), none⟩] false []) (.seq (.seq (.region [⟨(some 4), (.mov (.tmp 0)), none⟩, ⟨(some 5), (.nilck (.tmp 4)), none⟩, ⟨(some 6), (.faddr 2 (.tmp 5)), none⟩, ⟨(some 7), (.load false 1 (.tmp 6)), none⟩, ⟨(some 8), (.len 0 (.tmp 7)), none⟩, ⟨(some 9), (.bin .sub 3 (.tmp 8) (.const (.int .i64 1))), none⟩, ⟨(some 3), (.mov (.tmp 9)), none⟩] false []) (.seq (.region [⟨(some 10), (.mov (.tmp 3)), none⟩, ⟨(some 11), (.bin .geq 3 (.tmp 10) (.const (.int .i64 0))), none⟩, ⟨(some 12), (.mov (.tmp 11)), none⟩, ⟨(some 13), (.mov (.tmp 0)), (some ((some 12), true))⟩, ⟨(some 14), (.nilck (.tmp 13)), (some ((some 12), true))⟩, ⟨(some 15), (.faddr 2 (.tmp 14)), (some ((some 12), true))⟩, ⟨(some 16), (.load false 1 (.tmp 15)), (some ((some 12), true))⟩, ⟨(some 17), (.mov (.tmp 3)), (some ((some 12), true))⟩, ⟨(some 18), (.iaddr none 2 (.tmp 16) (.tmp 17)), (some ((some 12), true))⟩, ⟨(some 19), (.faddr 0 (.tmp 18)), (some ((some 12), true))⟩, ⟨(some 20), (.load false 1 (.tmp 19)), (some ((some 12), true))⟩, ⟨(some 21), (.mov (.tmp 0)), (some ((some 12), true))⟩, ⟨(some 22), (.nilck (.tmp 21)), (some ((some 12), true))⟩, ⟨(some 23), (.faddr 2 (.tmp 22)), (some ((some 12), true))⟩, ⟨(some 24), (.load false 1 (.tmp 23)), (some ((some 12), true))⟩, ⟨(some 25), (.mov (.tmp 3)), (some ((some 12), true))⟩, ⟨(some 26), (.iaddr none 2 (.tmp 24) (.tmp 25)), (some ((some 12), true))⟩, ⟨(some 27), (.faddr 1 (.tmp 26)), (some ((some 12), true))⟩, ⟨(some 28), (.load false 1 (.tmp 27)), (some ((some 12), true))⟩, ⟨(some 29), (.bin .add 3 (.tmp 20) (.tmp 28)), (some ((some 12), true))⟩, ⟨(some 30), (.mov (.tmp 0)), (some ((some 12), true))⟩, ⟨(some 31), (.nilck (.tmp 30)), (some ((some 12), true))⟩, ⟨(some 32), (.faddr 0 (.tmp 31)), (some ((some 12), true))⟩, ⟨(some 33), (.load false 1 (.tmp 32)), (some ((some 12), true))⟩, ⟨(some 34), (.bin .eql 3 (.tmp 29) (.tmp 33)), (some ((some 12), true))⟩, ⟨(some 35), (.pick (.tmp 12) (.tmp 34) (.const (.bool false))), none⟩] true []) (.cond (.tmp 35) (.seq (.region [⟨(some 36), (.mov (.tmp 0)), none⟩, ⟨(some 37), (.nilck (.tmp 36)), none⟩, ⟨(some 38), (.faddr 2 (.tmp 37)), none⟩, ⟨(some 39), (.load false 1 (.tmp 38)), none⟩, ⟨(some 40), (.mov (.tmp 3)), none⟩, ⟨(some 41), (.iaddr none 2 (.tmp 39) (.tmp 40)), none⟩, ⟨(some 42), (.faddr 1 (.tmp 41)), none⟩, ⟨(some 43), (.load false 1 (.tmp 42)), none⟩, ⟨(some 2), (.mov (.tmp 43)), none⟩] false []) .ret) .skip))) (.seq (.region [⟨(some 2), (.mov (.const (.int .i64 0))), none⟩] false []) .ret)))
def r119 : List ARes := [(.tmp 2)]
def c120L0 : ACode := (.seq (.region [⟨(some 13), (.mnxt (.tmp 12)), none⟩, ⟨(some 14), (.ext (.tmp 13) 0), none⟩] false []) (.seq (.cond (.tmp 14) .skip (.exit 0)) (.block 1 (.seq (.region [⟨(some 15), (.ment (.tmp 12)), none⟩, ⟨(some 16), (.ext (.tmp 15) 0), none⟩, ⟨(some 17), (.ext (.tmp 15) 1), none⟩, ⟨(some 6), (.mov (.tmp 16)), none⟩, ⟨(some 7), (.mov (.tmp 17)), none⟩] false []) (.seq (.region [⟨(some 18), (.mov (.tmp 1)), none⟩, ⟨(some 19), (.mov (.tmp 6)), none⟩, ⟨(some 20), (.call (.tmp 18) [(.tmp 19)]), none⟩] false []) (.cond (.tmp 20) (.region [⟨(some 21), (.mov (.tmp 5)), none⟩, ⟨(some 22), (.mov (.tmp 7)), none⟩, ⟨(some 23), (.call (.func 52) [(.tmp 21), (.tmp 22)]), none⟩, ⟨(some 5), (.mov (.tmp 23)), none⟩] false []) .skip))))))
def c120R1 : ACode := (.seq (.region [⟨(some 24), (.mov (.tmp 5)), none⟩, ⟨(some 4), (.mov (.tmp 24)), none⟩] false []) .ret)
def c120 : ACode := (.seq (.region [⟨(some 4), (.mov (.const (.slice none 0 0))), none⟩] false []) (.seq (.region [⟨(some 5), (.mov (.const (.slice none 0 0))), none⟩] false []) (.seq (.seq (.region [⟨(some 8), (.mov (.tmp 0)), none⟩, ⟨(some 9), (.nilck (.tmp 8)), none⟩, ⟨(some 10), (.faddr 3 (.tmp 9)), none⟩, ⟨(some 11), (.load false 1 (.tmp 10)), none⟩, ⟨(some 12), (.mrng (.tmp 11)), none⟩] false []) (.block 0 (.loop c120L0))) c120R1)))
def r120 : List ARes := [(.tmp 4)]
def c121 : ACode := (.seq (.region [⟨(some 2), (.mov (.const (.bool false))), none⟩] false []) (.seq (.region [⟨(some 2), (.mov (.const (.bool true))), none⟩] false []) .ret))
def r121 : List ARes := [(.tmp 2)]
def c122 : ACode := (.seq (.region [⟨(some 4), (.mov (.const (.bool false))), none⟩] false []) (.seq (.region [⟨(some 5), (.mov (.tmp 0)), none⟩, ⟨(some 6), (.load false 1 (.tmp 1)), none⟩, ⟨(some 7), (.bin .sub 3 (.tmp 6) (.const (.int .i64 2))), none⟩, ⟨(some 8), (.bin .leq 3 (.tmp 5) (.tmp 7)), none⟩, ⟨(some 9), (.mov (.tmp 8)), none⟩, ⟨(some 10), (.mov (.tmp 0)), (some ((some 9), true))⟩, ⟨(some 11), (.load false 1 (.tmp 2)), (some ((some 9), true))⟩, ⟨(some 12), (.bin .leq 3 (.tmp 10) (.tmp 11)), (some ((some 9), true))⟩, ⟨(some 13), (.pick (.tmp 9) (.tmp 12) (.const (.bool false))), none⟩, ⟨(some 4), (.mov (.tmp 13)), none⟩] false []) .ret))
def r122 : List ARes := [(.tmp 4)]
def c123L0 : ACode := (.seq (.region [⟨(some 8), (.mnxt (.tmp 7)), none⟩, ⟨(some 9), (.ext (.tmp 8) 0), none⟩] false []) (.seq (.cond (.tmp 9) .skip (.exit 0)) (.block 1 (.seq (.region [⟨(some 10), (.ment (.tmp 7)), none⟩, ⟨(some 11), (.ext (.tmp 10) 0), none⟩, ⟨(some 12), (.ext (.tmp 10) 1), none⟩, ⟨(some 4), (.mov (.tmp 11)), none⟩, ⟨(some 5), (.mov (.tmp 12)), none⟩] false []) (.seq (.region [⟨(some 13), (.mov (.tmp 1)), none⟩, ⟨(some 14), (.mov (.tmp 4)), none⟩, ⟨(some 15), (.mov (.tmp 5)), none⟩, ⟨(some 16), (.call (.tmp 13) [(.tmp 14), (.tmp 15)]), none⟩] false []) (.cond (.tmp 16) (.region [⟨(some 17), (.mov (.tmp 0)), none⟩, ⟨(some 18), (.mov (.tmp 4)), none⟩, ⟨none, (.mdel .i64 (.tmp 17) (.tmp 18)), none⟩] false []) .skip))))))
def c123 : ACode := (.seq (.region [⟨(some 6), (.mov (.tmp 0)), none⟩, ⟨(some 7), (.mrng (.tmp 6)), none⟩] false []) (.block 0 (.loop c123L0)))
def r123 : List ARes := []
def c124 : ACode := (.seq (.region [⟨(some 5), (.mov (.const (.bool false))), none⟩] false []) (.seq (.region [⟨(some 6), (.load false 1 (.tmp 2)), none⟩, ⟨(some 7), (.mov (.tmp 0)), none⟩, ⟨(some 8), (.call (.tmp 6) [(.tmp 7)]), none⟩, ⟨(some 5), (.mov (.tmp 8)), none⟩] false []) .ret))
def r124 : List ARes := [(.tmp 5)]
def c133 : ACode := (.seq (.region [⟨(some 3), (.mov (.const (.bool false))), none⟩] false []) (.seq (.region [⟨(some 4), (.mov (.tmp 0)), none⟩, ⟨(some 5), (.load false 1 (.tmp 1)), none⟩, ⟨(some 6), (.bin .neq 3 (.tmp 4) (.tmp 5)), none⟩, ⟨(some 3), (.mov (.tmp 6)), none⟩] false []) .ret))
def r133 : List ARes := [(.tmp 3)]
def c158 : ACode := (.seq (.region [⟨(some 2), (.box 2 (.tmp 0)), none⟩, ⟨(some 3), (.mov (.const (.bool false))), none⟩] false []) (.seq (.region [⟨(some 4), (.faddr 0 (.tmp 2)), none⟩, ⟨(some 5), (.load false 1 (.tmp 4)), none⟩, ⟨(some 6), (.load true 2 (.tmp 1)), none⟩, ⟨(some 7), (.call (.func 107) [(.tmp 6)]), none⟩, ⟨(some 8), (.bin .lss 3 (.tmp 5) (.tmp 7)), none⟩, ⟨(some 9), (.mov (.tmp 8)), none⟩, ⟨(some 10), (.faddr 0 (.tmp 1)), (some ((some 9), true))⟩, ⟨(some 11), (.load false 1 (.tmp 10)), (some ((some 9), true))⟩, ⟨(some 12), (.load true 2 (.tmp 2)), (some ((some 9), true))⟩, ⟨(some 13), (.call (.func 107) [(.tmp 12)]), (some ((some 9), true))⟩, ⟨(some 14), (.bin .lss 3 (.tmp 11) (.tmp 13)), (some ((some 9), true))⟩, ⟨(some 15), (.pick (.tmp 9) (.tmp 14) (.const (.bool false))), none⟩, ⟨(some 3), (.mov (.tmp 15)), none⟩] true [(1, 3), (7, 9)]) .ret))
def r158 : List ARes := [(.tmp 3)]
def c159 : ACode := (.seq (.region [⟨(some 5), (.mov (.tmp 0)), none⟩, ⟨(some 6), (.len 0 (.tmp 5)), none⟩, ⟨(some 4), (.mov (.tmp 6)), none⟩] false []) (.region [⟨(some 7), (.mov (.tmp 0)), none⟩, ⟨(some 8), (.mov (.tmp 4)), none⟩, ⟨(some 9), (.mov (.tmp 4)), none⟩, ⟨(some 10), (.conv .u64 (.tmp 9)), none⟩, ⟨(some 11), (.call (.func 181) [(.tmp 10)]), none⟩, ⟨(some 12), (.mov (.tmp 1)), none⟩, ⟨(some 13), (.call (.func 180) [(.tmp 7), (.const (.int .i64 0)), (.tmp 8), (.tmp 11), (.tmp 12)]), none⟩] false []))
def r159 : List ARes := []
def c160 : ACode := (.seq (.region [⟨(some 2), (.box 2 (.tmp 0)), none⟩, ⟨(some 3), (.box 2 (.tmp 1)), none⟩, ⟨(some 4), (.mov (.const (.int .i64 0))), none⟩] false []) (.seq (.region [⟨(some 5), (.faddr 0 (.tmp 2)), none⟩, ⟨(some 6), (.load false 1 (.tmp 5)), none⟩, ⟨(some 7), (.faddr 0 (.tmp 3)), none⟩, ⟨(some 8), (.load false 1 (.tmp 7)), none⟩, ⟨(some 9), (.bin .sub 3 (.tmp 6) (.tmp 8)), none⟩, ⟨(some 4), (.mov (.tmp 9)), none⟩] false []) .ret))
def r160 : List ARes := [(.tmp 4)]
def c161 : ACode := (.seq (.region [⟨(some 6), (.mov (.const (.slice none 0 0))), none⟩] false []) (.seq (.region [⟨(some 10), (.mov (.tmp 0)), none⟩, ⟨(some 11), (.mov (.tmp 1)), none⟩, ⟨(some 12), (.slice 2 (.tmp 10) (some (.tmp 11)) none none), none⟩] false []) (.seq (.region [⟨(some 13), (.mov (.tmp 2)), none⟩, ⟨(some 14), (.len 0 (.tmp 13)), none⟩, ⟨(some 7), (.mov (.tmp 14)), none⟩] false []) (.seq (.seq (.region [⟨(some 15), (.mov (.tmp 7)), none⟩, ⟨(some 16), (.bin .eql 3 (.tmp 15) (.const (.int .i64 0))), none⟩] false []) (.cond (.tmp 16) (.seq (.region [⟨(some 17), (.mov (.tmp 0)), none⟩, ⟨(some 6), (.mov (.tmp 17)), none⟩] false []) .ret) .skip)) (.seq (.region [⟨(some 18), (.mov (.tmp 0)), none⟩, ⟨(some 19), (.len 0 (.tmp 18)), none⟩, ⟨(some 8), (.mov (.tmp 19)), none⟩] false []) (.seq (.seq (.region [⟨(some 20), (.mov (.tmp 1)), none⟩, ⟨(some 21), (.mov (.tmp 8)), none⟩, ⟨(some 22), (.bin .eql 3 (.tmp 20) (.tmp 21)), none⟩] false []) (.cond (.tmp 22) (.seq (.region [⟨(some 23), (.mov (.tmp 0)), none⟩, ⟨(some 24), (.mov (.tmp 2)), none⟩, ⟨(some 25), (.app 2 16 (.tmp 23) (.tmp 24)), none⟩, ⟨(some 6), (.mov (.tmp 25)), none⟩] false []) .ret) .skip)) (.seq (.seq (.region [⟨(some 26), (.mov (.tmp 8)), none⟩, ⟨(some 27), (.mov (.tmp 7)), none⟩, ⟨(some 28), (.bin .add 3 (.tmp 26) (.tmp 27)), none⟩, ⟨(some 29), (.mov (.tmp 0)), none⟩, ⟨(some 30), (.cap (.tmp 29)), none⟩, ⟨(some 31), (.bin .gtr 3 (.tmp 28) (.tmp 30)), none⟩] false []) (.cond (.tmp 31) (.seq (.region [⟨(some 32), (.mov (.tmp 0)), none⟩, ⟨(some 33), (.mov (.tmp 1)), none⟩, ⟨(some 34), (.slice 2 (.tmp 32) none (some (.tmp 33)) none), none⟩, ⟨(some 35), (.mov (.tmp 8)), none⟩, ⟨(some 36), (.mov (.tmp 7)), none⟩, ⟨(some 37), (.bin .add 3 (.tmp 35) (.tmp 36)), none⟩, ⟨(some 38), (.mov (.tmp 1)), none⟩, ⟨(some 39), (.bin .sub 3 (.tmp 37) (.tmp 38)), none⟩, ⟨(some 40), (.appz 2 16 [(.sc (.int .i64 0)), (.sc (.int .i64 0))] (.tmp 34) (.tmp 39)), none⟩, ⟨(some 9), (.mov (.tmp 40)), none⟩] false []) (.seq (.region [⟨(some 41), (.mov (.tmp 9)), none⟩, ⟨(some 42), (.mov (.tmp 1)), none⟩, ⟨(some 43), (.slice 2 (.tmp 41) (some (.tmp 42)) none none), none⟩, ⟨(some 44), (.mov (.tmp 2)), none⟩, ⟨(some 45), (.copy 2 (.tmp 43) (.tmp 44)), none⟩] false []) (.seq (.region [⟨(some 46), (.mov (.tmp 9)), none⟩, ⟨(some 47), (.mov (.tmp 1)), none⟩, ⟨(some 48), (.mov (.tmp 7)), none⟩, ⟨(some 49), (.bin .add 3 (.tmp 47) (.tmp 48)), none⟩, ⟨(some 50), (.slice 2 (.tmp 46) (some (.tmp 49)) none none), none⟩, ⟨(some 51), (.mov (.tmp 0)), none⟩, ⟨(some 52), (.mov (.tmp 1)), none⟩, ⟨(some 53), (.slice 2 (.tmp 51) (some (.tmp 52)) none none), none⟩, ⟨(some 54), (.copy 2 (.tmp 50) (.tmp 53)), none⟩] true []) (.seq (.region [⟨(some 55), (.mov (.tmp 9)), none⟩, ⟨(some 6), (.mov (.tmp 55)), none⟩] false []) .ret)))) .skip)) (.seq (.region [⟨(some 56), (.mov (.tmp 0)), none⟩, ⟨(some 57), (.mov (.tmp 8)), none⟩, ⟨(some 58), (.mov (.tmp 7)), none⟩, ⟨(some 59), (.bin .add 3 (.tmp 57) (.tmp 58)), none⟩, ⟨(some 60), (.slice 2 (.tmp 56) none (some (.tmp 59)) none), none⟩, ⟨(some 0), (.mov (.tmp 60)), none⟩] false []) (.seq (.seq (.region [⟨(some 61), (.mov (.tmp 2)), none⟩, ⟨(some 62), (.mov (.tmp 0)), none⟩, ⟨(some 63), (.mov (.tmp 1)), none⟩, ⟨(some 64), (.mov (.tmp 7)), none⟩, ⟨(some 65), (.bin .add 3 (.tmp 63) (.tmp 64)), none⟩, ⟨(some 66), (.slice 2 (.tmp 62) (some (.tmp 65)) none none), none⟩, ⟨(some 67), (.call (.func 162) [(.tmp 61), (.tmp 66)]), none⟩, ⟨(some 68), (.un .not (.tmp 67)), none⟩] false []) (.cond (.tmp 68) (.seq (.region [⟨(some 69), (.mov (.tmp 0)), none⟩, ⟨(some 70), (.mov (.tmp 1)), none⟩, ⟨(some 71), (.mov (.tmp 7)), none⟩, ⟨(some 72), (.bin .add 3 (.tmp 70) (.tmp 71)), none⟩, ⟨(some 73), (.slice 2 (.tmp 69) (some (.tmp 72)) none none), none⟩, ⟨(some 74), (.mov (.tmp 0)), none⟩, ⟨(some 75), (.mov (.tmp 1)), none⟩, ⟨(some 76), (.slice 2 (.tmp 74) (some (.tmp 75)) none none), none⟩, ⟨(some 77), (.copy 2 (.tmp 73) (.tmp 76)), none⟩] true []) (.seq (.region [⟨(some 78), (.mov (.tmp 0)), none⟩, ⟨(some 79), (.mov (.tmp 1)), none⟩, ⟨(some 80), (.slice 2 (.tmp 78) (some (.tmp 79)) none none), none⟩, ⟨(some 81), (.mov (.tmp 2)), none⟩, ⟨(some 82), (.copy 2 (.tmp 80) (.tmp 81)), none⟩] false []) (.seq (.region [⟨(some 83), (.mov (.tmp 0)), none⟩, ⟨(some 6), (.mov (.tmp 83)), none⟩] false []) .ret))) .skip)) (.seq (.region [⟨(some 84), (.mov (.tmp 0)), none⟩, ⟨(some 85), (.mov (.tmp 8)), none⟩, ⟨(some 86), (.slice 2 (.tmp 84) (some (.tmp 85)) none none), none⟩, ⟨(some 87), (.mov (.tmp 2)), none⟩, ⟨(some 88), (.copy 2 (.tmp 86) (.tmp 87)), none⟩] false []) (.seq (.region [⟨(some 89), (.mov (.tmp 0)), none⟩, ⟨(some 90), (.mov (.tmp 1)), none⟩, ⟨(some 91), (.slice 2 (.tmp 89) (some (.tmp 90)) none none), none⟩, ⟨(some 92), (.mov (.tmp 7)), none⟩, ⟨(some 93), (.call (.func 163) [(.tmp 91), (.tmp 92)]), none⟩] false []) (.seq (.region [⟨(some 94), (.mov (.tmp 0)), none⟩, ⟨(some 6), (.mov (.tmp 94)), none⟩] false []) .ret))))))))))))
def r161 : List ARes := [(.tmp 6)]
def c165 : ACode := (.seq (.region [⟨(some 4), (.mov (.const (.slice none 0 0))), none⟩] false []) (.seq (.seq (.region [⟨(some 5), (.mov (.tmp 1)), none⟩, ⟨(some 6), (.bin .lss 3 (.tmp 5) (.const (.int .i64 0))), none⟩] false []) (.cond (.tmp 6) (.region [⟨(some 7), .stop, none⟩, ⟨none, .stop, none⟩] false []) .skip)) (.seq (.seq (.region [⟨(some 8), (.mov (.tmp 1)), none⟩, ⟨(some 9), (.mov (.tmp 0)), none⟩, ⟨(some 10), (.cap (.tmp 9)), none⟩, ⟨(some 11), (.mov (.tmp 0)), none⟩, ⟨(some 12), (.len 0 (.tmp 11)), none⟩, ⟨(some 13), (.bin .sub 3 (.tmp 10) (.tmp 12)), none⟩, ⟨(some 14), (.bin .sub 3 (.tmp 8) (.tmp 13)), none⟩, ⟨(some 1), (.mov (.tmp 14)), none⟩] false []) (.seq (.region [⟨(some 15), (.mov (.tmp 1)), none⟩, ⟨(some 16), (.bin .gtr 3 (.tmp 15) (.const (.int .i64 0))), none⟩] false []) (.cond (.tmp 16) (.region [⟨(some 17), (.mov (.tmp 0)), none⟩, ⟨(some 18), (.mov (.tmp 0)), none⟩, ⟨(some 19), (.cap (.tmp 18)), none⟩, ⟨(some 20), (.slice 2 (.tmp 17) none (some (.tmp 19)) none), none⟩, ⟨(some 21), (.mov (.tmp 1)), none⟩, ⟨(some 22), (.appz 2 16 [(.sc (.int .i64 0)), (.sc (.int .i64 0))] (.tmp 20) (.tmp 21)), none⟩, ⟨(some 23), (.mov (.tmp 0)), none⟩, ⟨(some 24), (.len 0 (.tmp 23)), none⟩, ⟨(some 25), (.slice 2 (.tmp 22) none (some (.tmp 24)) none), none⟩, ⟨(some 0), (.mov (.tmp 25)), none⟩] false []) .skip))) (.seq (.region [⟨(some 26), (.mov (.tmp 0)), none⟩, ⟨(some 4), (.mov (.tmp 26)), none⟩] false []) .ret))))
def r165 : List ARes := [(.tmp 4)]
def c166 : ACode := (.seq (.region [⟨(some 2), (.mov (.const (.bool false))), none⟩] false []) (.seq (.region [⟨(some 3), (.mov (.tmp 0)), none⟩, ⟨(some 4), (.call (.func 40) [(.tmp 3)]), none⟩, ⟨(some 5), (.mov (.tmp 4)), none⟩, ⟨(some 6), (.mov (.tmp 0)), (some ((some 5), true))⟩, ⟨(some 7), (.call (.func 43) [(.tmp 6)]), (some ((some 5), true))⟩, ⟨(some 8), (.bin .leq 3 (.tmp 7) (.const (.int .i64 16384))), (some ((some 5), true))⟩, ⟨(some 9), (.pick (.tmp 5) (.tmp 8) (.const (.bool false))), none⟩, ⟨(some 10), (.mov (.tmp 9)), none⟩, ⟨(some 11), (.mov (.tmp 0)), (some ((some 10), true))⟩, ⟨(some 12), (.len 0 (.tmp 11)), (some ((some 10), true))⟩, ⟨(some 13), (.bin .eql 3 (.tmp 12) (.const (.int .i64 0))), (some ((some 10), true))⟩, ⟨(some 14), (.mov (.tmp 13)), (some ((some 10), true))⟩, ⟨(some 15), (.mov (.tmp 0)), (some ((some 14), false))⟩, ⟨(some 16), (.iaddr none 2 (.tmp 15) (.const (.int .i64 0))), (some ((some 14), false))⟩, ⟨(some 17), (.faddr 0 (.tmp 16)), (some ((some 14), false))⟩, ⟨(some 18), (.load false 1 (.tmp 17)), (some ((some 14), false))⟩, ⟨(some 19), (.bin .geq 3 (.tmp 18) (.const (.int .i64 2))), (some ((some 14), false))⟩, ⟨(some 20), (.pick (.tmp 14) (.const (.bool true)) (.tmp 19)), (some ((some 10), true))⟩, ⟨(some 21), (.pick (.tmp 10) (.tmp 20) (.const (.bool false))), none⟩, ⟨(some 2), (.mov (.tmp 21)), none⟩] false []) .ret))
def r166 : List ARes := [(.tmp 2)]
noncomputable def ft : FT
  | 40 => some (.go true 31 r40 c40)
  | 42 => some (.go true 19 r42 c42)
  | 43 => some (.go true 15 r43 c43)
  | 45 => some (.go true 26 r45 c45)
  | 49 => some (.go true 29 r49 c49)
  | 51 => some (.go true 91 r51 c51)
  | 52 => some (.go true 12 r52 c52)
  | 53 => some (.go true 11 r53 c53)
  | 54 => some (.go true 35 r54 c54)
  | 105 => some (.go true 7 r105 c105)
  | 106 => some (.go true 24 r106 c106)
  | 107 => some (.go true 8 r107 c107)
  | 108 => some (.go true 15 r108 c108)
  | 110 => some (.go true 57 r110 c110)
  | 113 => some (.go true 36 r113 c113)
  | 114 => some (.go true 9 r114 c114)
  | 115 => some (.go true 8 r115 c115)
  | 116 => some (.go true 19 r116 c116)
  | 117 => some (.go true 12 r117 c117)
  | 158 => some (.go true 16 r158 c158)
  | 160 => some (.go true 10 r160 c160)
  | 165 => some (.go false 27 r165 c165)
  | 111 => some (.eprim (ecloP 2 16))
  | 112 => some (.prim (repP 2 16))
  | 159 => some (.prim (sortP 160))
  | _ => none
end Go.VI

set_option maxRecDepth 100000
namespace Go.VI
def zR : List AV := [.sc (.int .i64 0), .sc (.int .i64 0)]
theorem t_insR : c161 = insC 2 16 zR 162 163 := rfl
theorem t_repR : c112 = repC 2 16 zR 161 162 163 164 := rfl
theorem t_cloR : c111 = cloC 2 16 zR := rfl
end Go.VI

set_option linter.unusedVariables false
set_option linter.unusedSimpArgs false
set_option maxRecDepth 100000
namespace Go.VI
attribute [local congr] AW_congr OW_congr DW_congr NW_congr VW_congr GW_congr PW_congr KW_congr ite_congr' GV_congr CV_congr
abbrev Bytes := List Int
structure ItemM where
  key : Bytes
  value : Bytes
  size : Int
  ref : Int
structure KidM where
  key : Bytes
  ref : Int
structure NodeM where
  leaf : Bool
  items : List ItemM
  kids : List KidM
structure NamedM where
  ref : Int
  n : NodeM
structure StepM where
  ref : Int
  n : NodeM
  k : Int
def int (n : Int) : AV := .sc (.int .i64 n)
def boolA (b : Bool) : AV := .sc (.bool b)
def byteC (n : Int) : List AV := [.sc (.int .u8 n)]
def encB (l : Bytes) : AV := .lst (l.map byteC)
def itemC (x : ItemM) : List AV := [encB x.key, encB x.value, int x.size, int x.ref]
def encI (l : List ItemM) : AV := .lst (l.map itemC)
def kidC (x : KidM) : List AV := [encB x.key, int x.ref]
def encK (l : List KidM) : AV := .lst (l.map kidC)
def nodeC (n : NodeM) : List AV := [boolA n.leaf, encI n.items, encK n.kids]
def namedC (x : NamedM) : List AV := int x.ref :: nodeC x.n
def encL (l : List NamedM) : AV := .lst (l.map namedC)
def stepC (x : StepM) : List AV := [int x.ref, boolA x.n.leaf, encI x.n.items, encK x.n.kids, int x.k]
def encS (l : List StepM) : AV := .lst (l.map stepC)
section
variable {H : Heap} {K : Heap} {L : List Blk}
theorem len_itemC (x : ItemM) : (itemC x).length = 4 := rfl
theorem len_kidC (x : KidM) : (kidC x).length = 2 := rfl
theorem len_namedC (x : NamedM) : (namedC x).length = 4 := rfl
theorem len_stepC (x : StepM) : (stepC x).length = 5 := rfl
theorem lenB (l : Bytes) : lenV H 0 (encB l) = some (.sc (.int .i64 (l.length : Int)), H) := by simp [lenV, lenOfA, encB]
theorem lenI (l : List ItemM) : lenV H 0 (encI l) = some (.sc (.int .i64 (l.length : Int)), H) := by simp [lenV, lenOfA, encI]
theorem lenK (l : List KidM) : lenV H 0 (encK l) = some (.sc (.int .i64 (l.length : Int)), H) := by simp [lenV, lenOfA, encK]
theorem lenL (l : List NamedM) : lenV H 0 (encL l) = some (.sc (.int .i64 (l.length : Int)), H) := by simp [lenV, lenOfA, encL]
theorem lenS (l : List StepM) : lenV H 0 (encS l) = some (.sc (.int .i64 (l.length : Int)), H) := by simp [lenV, lenOfA, encS]
end
section
theorem zi (n : Nat) (H : Heap) (x : ItemM) : frz.frzL (n + 6) H (itemC x) = some (itemC x, H) := rfl
theorem zk (n : Nat) (H : Heap) (x : KidM) : frz.frzL (n + 4) H (kidC x) = some (kidC x, H) := rfl
theorem zn (n : Nat) (H : Heap) (x : NodeM) : frz.frzL (n + 5) H (nodeC x) = some (nodeC x, H) := rfl
theorem zm (n : Nat) (H : Heap) (x : NamedM) : frz.frzL (n + 6) H (namedC x) = some (namedC x, H) := rfl
theorem zs (n : Nat) (H : Heap) (x : StepM) : frz.frzL (n + 7) H (stepC x) = some (stepC x, H) := rfl
theorem fz_i (H : Heap) (x : ItemM) : frz.frzL 24 H (itemC x) = some (itemC x, H) := rfl
theorem fz_k (H : Heap) (x : KidM) : frz.frzL 24 H (kidC x) = some (kidC x, H) := rfl
theorem i_all (x : ItemM) : (itemC x).take 4 = itemC x := rfl
theorem i_0 (x : ItemM) : (itemC x).take 1 = [encB x.key] := rfl
theorem i_1 (x : ItemM) : ((itemC x).drop 1).take 1 = [encB x.value] := rfl
theorem i_2 (x : ItemM) : ((itemC x).drop 2).take 1 = [int x.size] := rfl
theorem i_3 (x : ItemM) : ((itemC x).drop 3).take 1 = [int x.ref] := rfl
theorem i_one (x : ItemM) : oneAll (itemC x) = true := rfl
theorem k_all (x : KidM) : (kidC x).take 2 = kidC x := rfl
theorem k_0 (x : KidM) : (kidC x).take 1 = [encB x.key] := rfl
theorem k_1 (x : KidM) : ((kidC x).drop 1).take 1 = [int x.ref] := rfl
theorem k_one (x : KidM) : oneAll (kidC x) = true := rfl
theorem n_all (x : NodeM) : (nodeC x).take 3 = nodeC x := rfl
theorem n_0 (x : NodeM) : (nodeC x).take 1 = [boolA x.leaf] := rfl
theorem n_1 (x : NodeM) : ((nodeC x).drop 1).take 1 = [encI x.items] := rfl
theorem n_2 (x : NodeM) : ((nodeC x).drop 2).take 1 = [encK x.kids] := rfl
theorem n_one (x : NodeM) : oneAll (nodeC x) = true := rfl
theorem len_nodeC (x : NodeM) : (nodeC x).length = 3 := rfl
theorem m_all (x : NamedM) : (namedC x).take 4 = namedC x := rfl
theorem m_0 (x : NamedM) : (namedC x).take 1 = [int x.ref] := rfl
theorem m_n (x : NamedM) : ((namedC x).drop 1).take 3 = nodeC x.n := rfl
theorem m_1 (x : NamedM) : ((namedC x).drop 1).take 1 = [boolA x.n.leaf] := rfl
theorem m_2 (x : NamedM) : ((namedC x).drop 2).take 1 = [encI x.n.items] := rfl
theorem m_3 (x : NamedM) : ((namedC x).drop 3).take 1 = [encK x.n.kids] := rfl
theorem m_one (x : NamedM) : oneAll (namedC x) = true := rfl
theorem s_all (x : StepM) : (stepC x).take 5 = stepC x := rfl
theorem s_0 (x : StepM) : (stepC x).take 1 = [int x.ref] := rfl
theorem s_n (x : StepM) : ((stepC x).drop 1).take 3 = nodeC x.n := rfl
theorem s_1 (x : StepM) : ((stepC x).drop 1).take 1 = [boolA x.n.leaf] := rfl
theorem s_2 (x : StepM) : ((stepC x).drop 2).take 1 = [encI x.n.items] := rfl
theorem s_3 (x : StepM) : ((stepC x).drop 3).take 1 = [encK x.n.kids] := rfl
theorem s_4 (x : StepM) : ((stepC x).drop 4).take 1 = [int x.k] := rfl
theorem s_one (x : StepM) : oneAll (stepC x) = true := rfl
theorem frz_B (n : Nat) (H : Heap) (l : Bytes) : frz (n + 1) H (encB l) = some (encB l, H) := rfl
theorem frz_I (n : Nat) (H : Heap) (l : List ItemM) : frz (n + 1) H (encI l) = some (encI l, H) := rfl
theorem frz_K (n : Nat) (H : Heap) (l : List KidM) : frz (n + 1) H (encK l) = some (encK l, H) := rfl
theorem frz_L (n : Nat) (H : Heap) (l : List NamedM) : frz (n + 1) H (encL l) = some (encL l, H) := rfl
theorem frz_S (n : Nat) (H : Heap) (l : List StepM) : frz (n + 1) H (encS l) = some (encS l, H) := rfl
theorem one_B (l : Bytes) : (encB l).one = true := rfl
theorem one_I (l : List ItemM) : (encI l).one = true := rfl
theorem one_K (l : List KidM) : (encK l).one = true := rfl
theorem one_L (l : List NamedM) : (encL l).one = true := rfl
theorem one_S (l : List StepM) : (encS l).one = true := rfl
theorem cs_B (l : Bytes) : (encB l).cells = [encB l] := rfl
theorem cs_I (l : List ItemM) : (encI l).cells = [encI l] := rfl
theorem cs_K (l : List KidM) : (encK l).cells = [encK l] := rfl
theorem cs_L (l : List NamedM) : (encL l).cells = [encL l] := rfl
theorem cs_S (l : List StepM) : (encS l).cells = [encS l] := rfl
set_option linter.defProp false
def da := (⟨@zi, @zk, @zn, @zm, @zs, @fz_i, @fz_k, @lenB, @lenI, @lenK, @lenL, @lenS, @i_all, @i_0, @i_1, @i_2, @i_3, @i_one, @k_all, @k_0, @k_1, @k_one, @n_all, @n_0, @n_1, @n_2, @n_one, @len_nodeC, @m_all, @m_0, @m_n, @m_1, @m_2, @m_3, @m_one, @s_all, @s_0, @s_n, @s_1, @s_2, @s_3, @s_4, @s_one, @len_itemC, @len_kidC, @len_namedC, @len_stepC, @frz_B, @frz_I, @frz_K, @frz_L, @frz_S, @one_B, @one_I, @one_K, @one_L, @one_S, @cs_B, @cs_I, @cs_K, @cs_L, @cs_S⟩ : _ ∧ _ ∧ _ ∧ _ ∧ _ ∧ _ ∧ _ ∧ _ ∧ _ ∧ _ ∧ _ ∧ _ ∧ _ ∧ _ ∧ _ ∧ _ ∧ _ ∧ _ ∧ _ ∧ _ ∧ _ ∧ _ ∧ _ ∧ _ ∧ _ ∧ _ ∧ _ ∧ _ ∧ _ ∧ _ ∧ _ ∧ _ ∧ _ ∧ _ ∧ _ ∧ _ ∧ _ ∧ _ ∧ _ ∧ _ ∧ _ ∧ _ ∧ _ ∧ _ ∧ _ ∧ _ ∧ _ ∧ _ ∧ _ ∧ _ ∧ _ ∧ _ ∧ _ ∧ _ ∧ _ ∧ _ ∧ _ ∧ _ ∧ _ ∧ _ ∧ _ ∧ _)
end
end Go.VI

set_option linter.unusedVariables false
set_option linter.unusedSimpArgs false
set_option maxRecDepth 100000
namespace Go.VI
attribute [local congr] AW_congr OW_congr DW_congr NW_congr VW_congr GW_congr PW_congr KW_congr ite_congr' GV_congr CV_congr
abbrev RunM := Int × Int
def runC (x : RunM) : List AV := [int x.1, int x.2]
def encR (l : List RunM) : AV := .lst (l.map runC)
def numC (n : Int) : List AV := [int n]
def encN (l : List Int) : AV := .lst (l.map numC)
def bitC (b : Bool) : List AV := [boolA b]
def encT (l : List Bool) : AV := .lst (l.map bitC)
section
variable {H : Heap}
theorem len_runC (x : RunM) : (runC x).length = 2 := rfl
theorem len_numC (x : Int) : (numC x).length = 1 := rfl
theorem len_bitC (x : Bool) : (bitC x).length = 1 := rfl
theorem lenR (l : List RunM) : lenV H 0 (encR l) = some (.sc (.int .i64 (l.length : Int)), H) := by simp [lenV, lenOfA, encR]
theorem lenN (l : List Int) : lenV H 0 (encN l) = some (.sc (.int .i64 (l.length : Int)), H) := by simp [lenV, lenOfA, encN]
theorem lenT (l : List Bool) : lenV H 0 (encT l) = some (.sc (.int .i64 (l.length : Int)), H) := by simp [lenV, lenOfA, encT]
theorem atR {l : List RunM} {i : Nat} (h : i < l.length) : iaddrA H none 2 (encR l) (i : Int) = some (.pim (l.map runC) i 0) := iaddr_map h len_runC
theorem cR {l : List RunM} {i off n : Nat} (h : i < l.length) : cellsAt H (.pim (l.map runC) i off) n = if off + n ≤ 2 then some (((runC l[i]).drop off).take n) else none := cells_map h
theorem zr (n : Nat) (H : Heap) (x : RunM) : frz.frzL (n + 3) H (runC x) = some (runC x, H) := rfl
theorem fz_r (H : Heap) (x : RunM) : frz.frzL 24 H (runC x) = some (runC x, H) := rfl
theorem r_all (x : RunM) : (runC x).take 2 = runC x := rfl
theorem r_0 (x : RunM) : (runC x).take 1 = [int x.1] := rfl
theorem r_1 (x : RunM) : ((runC x).drop 1).take 1 = [int x.2] := rfl
theorem r_one (x : RunM) : oneAll (runC x) = true := rfl
theorem nu_0 (x : Int) : (numC x).take 1 = [int x] := rfl
theorem bi_0 (x : Bool) : (bitC x).take 1 = [boolA x] := rfl
theorem frz_R (n : Nat) (H : Heap) (l : List RunM) : frz (n + 1) H (encR l) = some (encR l, H) := rfl
theorem frz_N (n : Nat) (H : Heap) (l : List Int) : frz (n + 1) H (encN l) = some (encN l, H) := rfl
theorem frz_T (n : Nat) (H : Heap) (l : List Bool) : frz (n + 1) H (encT l) = some (encT l, H) := rfl
theorem one_R (l : List RunM) : (encR l).one = true := rfl
theorem one_N (l : List Int) : (encN l).one = true := rfl
theorem one_T (l : List Bool) : (encT l).one = true := rfl
theorem cs_R (l : List RunM) : (encR l).cells = [encR l] := rfl
theorem cs_N (l : List Int) : (encN l).cells = [encN l] := rfl
theorem cs_T (l : List Bool) : (encT l).cells = [encT l] := rfl
theorem sids_R (l : List RunM) : sids [encR l] = some [] := rfl
theorem sids_N (l : List Int) : sids [encN l] = some [] := rfl
theorem sids_T (l : List Bool) : sids [encT l] = some [] := rfl
end
set_option linter.defProp false
def dr := And.intro @len_runC <| And.intro @len_numC <| And.intro @len_bitC <| And.intro @lenR <| And.intro @lenN <| And.intro @lenT <| And.intro @zr <| And.intro @fz_r <| And.intro @r_all <| And.intro @r_0 <| And.intro @r_1 <| And.intro @r_one <| And.intro @nu_0 <| And.intro @bi_0 <| And.intro @frz_R <| And.intro @frz_N <| And.intro @frz_T <| And.intro @one_R <| And.intro @one_N <| And.intro @one_T <| And.intro @cs_R <| And.intro @cs_N <| And.intro @cs_T <| And.intro @sids_R <| And.intro @sids_N @sids_T
/-- May a run be? -/
def mayM (x : RunM) : Bool := decide (0 ≤ x.1) && decide (1 ≤ x.2) && decide (x.1 ≤ 32768) && decide (x.2 ≤ 32768 - x.1)
theorem mayM_iff {x : RunM} : mayM x = true ↔ 0 ≤ x.1 ∧ 1 ≤ x.2 ∧ x.1 ≤ 32768 ∧ x.2 ≤ 32768 - x.1 := by simp [mayM, and_assoc]
theorem s106 (x : RunM) (H : Heap) : callL ft (.fn (.func 106) [] []) [.agg (runC x)] H = some (boolA (mayM x), H) := by
  refine call_p (as' := [.agg (runC x)]) rfl rfl (by simp) ?_
  unfold c106 r106
  by_cases h1 : 0 ≤ x.1
  · by_cases h2 : 1 ≤ x.2
    · by_cases h3 : x.1 ≤ 32768
      · have w : IntKind.i64.wrap (32768 - x.1) = 32768 - x.1 := wrap_i64 (by omega)
        have e : mayM x = decide (x.2 ≤ 32768 - x.1) := by simp [mayM, h1, h2, h3]
        rw [e]
        simp only [↓vp, vq0, vq1, vq2, vq3, vr0, vr1, vr2, vr3, vr4, vr5, vr6, vr7, vr8, vr9, vr10, vr11, vr12, vr13, vr14, vr15, vr16, vr17, vr18, vr19, vr20, vr21, vr22, vr23, vr24, vr25, vr26, vr27, vr28, vr29, vr30, vr31, vr32, vr33, vr34, opS, fpS, extO, okP, pack, nAl, allocA, shId, leaves, fillA, fillR, splice, Nat.reduceLT, Nat.reduceEqDiff, Nat.reduceLeDiff, Nat.reduceAdd, Nat.reduceSub, Nat.reduceMul, Int.reduceBEq, Int.reduceBNe, Int.reduceLT, Int.reduceLE, Int.reduceEq, reduceIte, reduceCtorEq, da, int, boolA, RetP_go, resT, resC, resN, retV1, retV2, retV3, retV0, frzFZ, takeM, Option.some.injEq, dr, runC, h1, h2, h3, w]
      · have e : mayM x = false := by simp [mayM, h3]
        rw [e]
        simp only [↓vp, vq0, vq1, vq2, vq3, vr0, vr1, vr2, vr3, vr4, vr5, vr6, vr7, vr8, vr9, vr10, vr11, vr12, vr13, vr14, vr15, vr16, vr17, vr18, vr19, vr20, vr21, vr22, vr23, vr24, vr25, vr26, vr27, vr28, vr29, vr30, vr31, vr32, vr33, vr34, opS, fpS, extO, okP, pack, nAl, allocA, shId, leaves, fillA, fillR, splice, Nat.reduceLT, Nat.reduceEqDiff, Nat.reduceLeDiff, Nat.reduceAdd, Nat.reduceSub, Nat.reduceMul, Int.reduceBEq, Int.reduceBNe, Int.reduceLT, Int.reduceLE, Int.reduceEq, reduceIte, reduceCtorEq, da, int, boolA, RetP_go, resT, resC, resN, retV1, retV2, retV3, retV0, frzFZ, takeM, Option.some.injEq, dr, runC, h1, h2, h3]
    · have e : mayM x = false := by simp [mayM, h2]
      rw [e]
      simp only [↓vp, vq0, vq1, vq2, vq3, vr0, vr1, vr2, vr3, vr4, vr5, vr6, vr7, vr8, vr9, vr10, vr11, vr12, vr13, vr14, vr15, vr16, vr17, vr18, vr19, vr20, vr21, vr22, vr23, vr24, vr25, vr26, vr27, vr28, vr29, vr30, vr31, vr32, vr33, vr34, opS, fpS, extO, okP, pack, nAl, allocA, shId, leaves, fillA, fillR, splice, Nat.reduceLT, Nat.reduceEqDiff, Nat.reduceLeDiff, Nat.reduceAdd, Nat.reduceSub, Nat.reduceMul, Int.reduceBEq, Int.reduceBNe, Int.reduceLT, Int.reduceLE, Int.reduceEq, reduceIte, reduceCtorEq, da, int, boolA, RetP_go, resT, resC, resN, retV1, retV2, retV3, retV0, frzFZ, takeM, Option.some.injEq, dr, runC, h1, h2]
  · have e : mayM x = false := by simp [mayM, h1]
    rw [e]
    simp only [↓vp, vq0, vq1, vq2, vq3, vr0, vr1, vr2, vr3, vr4, vr5, vr6, vr7, vr8, vr9, vr10, vr11, vr12, vr13, vr14, vr15, vr16, vr17, vr18, vr19, vr20, vr21, vr22, vr23, vr24, vr25, vr26, vr27, vr28, vr29, vr30, vr31, vr32, vr33, vr34, opS, fpS, extO, okP, pack, nAl, allocA, shId, leaves, fillA, fillR, splice, Nat.reduceLT, Nat.reduceEqDiff, Nat.reduceLeDiff, Nat.reduceAdd, Nat.reduceSub, Nat.reduceMul, Int.reduceBEq, Int.reduceBNe, Int.reduceLT, Int.reduceLE, Int.reduceEq, reduceIte, reduceCtorEq, da, int, boolA, RetP_go, resT, resC, resN, retV1, retV2, retV3, retV0, frzFZ, takeM, Option.some.injEq, dr, runC, h1]
theorem k106 {x : RunM} {K : Heap} {L : List Blk} {Q : AV → Heap → Prop} : KW ft (.fn (.func 106) [] []) [.agg (runC x)] (hx K L) Q ↔ Q (boolA (mayM x)) (hx K L) := KW_of (s106 x _)
theorem s49 (x : RunM) (H : Heap) : callL ft (.fn (.func 49) [] []) [.agg (runC x)] H = some (boolA (mayM x), H) := by
  refine call_p (as' := [.agg (runC x)]) rfl rfl (by simp) ?_
  unfold c49 r49
  by_cases h1 : 0 ≤ x.1
  · by_cases h3 : x.1 ≤ 32768
    · by_cases h2 : 1 ≤ x.2
      · by_cases h4 : x.2 ≤ 32768
        · have w : IntKind.i64.wrap (x.1 + x.2) = x.1 + x.2 := wrap_i64 (by omega)
          have e : mayM x = decide (x.1 + x.2 ≤ 32768) := by
            simp [mayM, h1, h2, h3]
            omega
          rw [e]
          simp only [↓vp, vq0, vq1, vq2, vq3, vr0, vr1, vr2, vr3, vr4, vr5, vr6, vr7, vr8, vr9, vr10, vr11, vr12, vr13, vr14, vr15, vr16, vr17, vr18, vr19, vr20, vr21, vr22, vr23, vr24, vr25, vr26, vr27, vr28, vr29, vr30, vr31, vr32, vr33, vr34, opS, fpS, extO, okP, pack, nAl, allocA, shId, leaves, fillA, fillR, splice, Nat.reduceLT, Nat.reduceEqDiff, Nat.reduceLeDiff, Nat.reduceAdd, Nat.reduceSub, Nat.reduceMul, Int.reduceBEq, Int.reduceBNe, Int.reduceLT, Int.reduceLE, Int.reduceEq, reduceIte, reduceCtorEq, da, int, boolA, RetP_go, resT, resC, resN, retV1, retV2, retV3, retV0, frzFZ, takeM, Option.some.injEq, dr, runC, h1, h2, h3, h4, w]
        · have e : mayM x = false := by simp [mayM]; omega
          rw [e]
          simp only [↓vp, vq0, vq1, vq2, vq3, vr0, vr1, vr2, vr3, vr4, vr5, vr6, vr7, vr8, vr9, vr10, vr11, vr12, vr13, vr14, vr15, vr16, vr17, vr18, vr19, vr20, vr21, vr22, vr23, vr24, vr25, vr26, vr27, vr28, vr29, vr30, vr31, vr32, vr33, vr34, opS, fpS, extO, okP, pack, nAl, allocA, shId, leaves, fillA, fillR, splice, Nat.reduceLT, Nat.reduceEqDiff, Nat.reduceLeDiff, Nat.reduceAdd, Nat.reduceSub, Nat.reduceMul, Int.reduceBEq, Int.reduceBNe, Int.reduceLT, Int.reduceLE, Int.reduceEq, reduceIte, reduceCtorEq, da, int, boolA, RetP_go, resT, resC, resN, retV1, retV2, retV3, retV0, frzFZ, takeM, Option.some.injEq, dr, runC, h1, h2, h3, h4]
      · have e : mayM x = false := by simp [mayM, h2]
        rw [e]
        simp only [↓vp, vq0, vq1, vq2, vq3, vr0, vr1, vr2, vr3, vr4, vr5, vr6, vr7, vr8, vr9, vr10, vr11, vr12, vr13, vr14, vr15, vr16, vr17, vr18, vr19, vr20, vr21, vr22, vr23, vr24, vr25, vr26, vr27, vr28, vr29, vr30, vr31, vr32, vr33, vr34, opS, fpS, extO, okP, pack, nAl, allocA, shId, leaves, fillA, fillR, splice, Nat.reduceLT, Nat.reduceEqDiff, Nat.reduceLeDiff, Nat.reduceAdd, Nat.reduceSub, Nat.reduceMul, Int.reduceBEq, Int.reduceBNe, Int.reduceLT, Int.reduceLE, Int.reduceEq, reduceIte, reduceCtorEq, da, int, boolA, RetP_go, resT, resC, resN, retV1, retV2, retV3, retV0, frzFZ, takeM, Option.some.injEq, dr, runC, h1, h2, h3]
    · have e : mayM x = false := by simp [mayM, h3]
      rw [e]
      simp only [↓vp, vq0, vq1, vq2, vq3, vr0, vr1, vr2, vr3, vr4, vr5, vr6, vr7, vr8, vr9, vr10, vr11, vr12, vr13, vr14, vr15, vr16, vr17, vr18, vr19, vr20, vr21, vr22, vr23, vr24, vr25, vr26, vr27, vr28, vr29, vr30, vr31, vr32, vr33, vr34, opS, fpS, extO, okP, pack, nAl, allocA, shId, leaves, fillA, fillR, splice, Nat.reduceLT, Nat.reduceEqDiff, Nat.reduceLeDiff, Nat.reduceAdd, Nat.reduceSub, Nat.reduceMul, Int.reduceBEq, Int.reduceBNe, Int.reduceLT, Int.reduceLE, Int.reduceEq, reduceIte, reduceCtorEq, da, int, boolA, RetP_go, resT, resC, resN, retV1, retV2, retV3, retV0, frzFZ, takeM, Option.some.injEq, dr, runC, h1, h3]
  · have e : mayM x = false := by simp [mayM, h1]
    rw [e]
    simp only [↓vp, vq0, vq1, vq2, vq3, vr0, vr1, vr2, vr3, vr4, vr5, vr6, vr7, vr8, vr9, vr10, vr11, vr12, vr13, vr14, vr15, vr16, vr17, vr18, vr19, vr20, vr21, vr22, vr23, vr24, vr25, vr26, vr27, vr28, vr29, vr30, vr31, vr32, vr33, vr34, opS, fpS, extO, okP, pack, nAl, allocA, shId, leaves, fillA, fillR, splice, Nat.reduceLT, Nat.reduceEqDiff, Nat.reduceLeDiff, Nat.reduceAdd, Nat.reduceSub, Nat.reduceMul, Int.reduceBEq, Int.reduceBNe, Int.reduceLT, Int.reduceLE, Int.reduceEq, reduceIte, reduceCtorEq, da, int, boolA, RetP_go, resT, resC, resN, retV1, retV2, retV3, retV0, frzFZ, takeM, Option.some.injEq, dr, runC, h1]
def endM (x : RunM) : Int := x.1 + x.2
theorem s107 (x : RunM) (h : -9223372036854775808 ≤ x.1 + x.2 ∧ x.1 + x.2 < 9223372036854775808) (H : Heap) : callL ft (.fn (.func 107) [] []) [.agg (runC x)] H = some (int (endM x), H) := by
  refine call_p (as' := [.agg (runC x)]) rfl rfl (by simp) ?_
  unfold c107 r107
  have w : IntKind.i64.wrap (x.1 + x.2) = endM x := wrap_i64 (by omega)
  simp only [↓vp, vq0, vq1, vq2, vq3, vr0, vr1, vr2, vr3, vr4, vr5, vr6, vr7, vr8, vr9, vr10, vr11, vr12, vr13, vr14, vr15, vr16, vr17, vr18, vr19, vr20, vr21, vr22, vr23, vr24, vr25, vr26, vr27, vr28, vr29, vr30, vr31, vr32, vr33, vr34, opS, fpS, extO, okP, pack, nAl, allocA, shId, leaves, fillA, fillR, splice, Nat.reduceLT, Nat.reduceEqDiff, Nat.reduceLeDiff, Nat.reduceAdd, Nat.reduceSub, Nat.reduceMul, Int.reduceBEq, Int.reduceBNe, Int.reduceLT, Int.reduceLE, Int.reduceEq, reduceIte, reduceCtorEq, da, int, boolA, RetP_go, resT, resC, resN, retV1, retV2, retV3, retV0, frzFZ, takeM, Option.some.injEq, dr, runC, w]
theorem k107 {x : RunM} (h : -9223372036854775808 ≤ x.1 + x.2 ∧ x.1 + x.2 < 9223372036854775808) {K : Heap} {L : List Blk} {Q : AV → Heap → Prop} : KW ft (.fn (.func 107) [] []) [.agg (runC x)] (hx K L) Q ↔ Q (int (endM x)) (hx K L) := KW_of (s107 x h _)
end Go.VI

set_option linter.unusedVariables false
set_option linter.unusedSimpArgs false
set_option maxRecDepth 100000
namespace Go.VI
attribute [local congr] AW_congr OW_congr DW_congr NW_congr VW_congr GW_congr PW_congr KW_congr ite_congr' GV_congr CV_congr
def kill (K : Heap) : AV → Heap
  | .sl id _ _ => K.set id .dead
  | _ => K
theorem kill_next (K : Heap) (S : AV) : (kill K S).next = K.next := by
  unfold kill
  split
  · exact Heap.next_set _ _ _
  · rfl
theorem appA_rep {K : Heap} {S : AV} {sz bytes nid : Nat} {rows : List (List AV)} (h : Rep K sz S rows) {xs : List (List AV)} (h0 : xs ≠ []) (hs : allSz sz xs = true) (hb : (rows.length + xs.length) * bytes ≤ 140737488355328) (L : List Blk) :
    appA nid (hx K L) sz bytes S xs = some (.sl nid 0 (rows.length + xs.length), (hx (kill K S) L).put nid (.row false sz (rows ++ xs))) := by
  have hl : xs.length ≠ 0 := fun e => h0 (List.eq_nil_of_length_eq_zero e)
  rcases h with ⟨rfl, rfl⟩ | ⟨id, rfl, hr⟩
  · rw [appA_nil, if_neg hl, if_pos ⟨by simpa using hb, hs⟩]
    simp [kill]
  · have lid := Heap.get_lt hr
    rw [appA_sl, hx_get_old K L id lid, hr]
    simp only
    rw [if_pos ⟨by trivial, by omega, hb, hs⟩, if_neg (by omega), hx_set_old K L _ id lid, List.drop_zero, List.take_of_length_le (Nat.le_refl _)]
    rfl
theorem get_old {K : Heap} {j : Nat} {b : Blk} (hj : K.get j = some b) (L : List Blk) : (hx K L).get j = some b := by
  rw [hx_get_old _ _ _ (Heap.get_lt hj), hj]
/-- Nothing below a number has changed. -/
def Stay (B : Nat) (H H' : Heap) : Prop := H.next ≤ H'.next ∧ ∀ j, j < B → H'.get j = H.get j
theorem Stay.rfl' {B : Nat} {H : Heap} : Stay B H H := ⟨Nat.le_refl _, fun _ _ => rfl⟩
theorem Stay.trans {B : Nat} {H H' H'' : Heap} (h : Stay B H H') (h' : Stay B H' H'') : Stay B H H'' := ⟨Nat.le_trans h.1 h'.1, fun j hj => (h'.2 j hj).trans (h.2 j hj)⟩
theorem Stay.hx {B : Nat} {H : Heap} (L : List Blk) (h : B ≤ H.next) : Stay B H (hx H L) := ⟨by rw [hx_next]; omega, fun j hj => hx_get_old _ _ _ (by omega)⟩
theorem Stay.set {B : Nat} {H : Heap} {id : Nat} (b : Blk) (h : B ≤ id) : Stay B H (H.set id b) := ⟨by rw [Heap.next_set]; exact Nat.le_refl _, fun j hj => Heap.get_set_ne _ (by omega)⟩
/-- A slice that was made from a number on. -/
def RepB (B : Nat) (K : Heap) (sz : Nat) (S : AV) (rows : List (List AV)) : Prop := (S = .sc (.slice none 0 0) ∧ rows = []) ∨ ∃ id, B ≤ id ∧ S = .sl id 0 rows.length ∧ K.get id = some (.row false sz rows)
theorem RepB.rep {B : Nat} {K : Heap} {sz : Nat} {S : AV} {rows : List (List AV)} (h : RepB B K sz S rows) : Rep K sz S rows := by
  rcases h with h | ⟨id, _, h1, h2⟩
  · exact .inl h
  · exact .inr ⟨id, h1, h2⟩
theorem RepB.kill {B : Nat} {K : Heap} {sz : Nat} {S : AV} {rows : List (List AV)} (h : RepB B K sz S rows) : Stay B K (kill K S) := by
  rcases h with ⟨rfl, _⟩ | ⟨id, hb, rfl, _⟩
  · exact .rfl'
  · exact .set _ hb
theorem rowSz_of {H : Heap} {id : Nat} {fz : Bool} {sz : Nat} {rs : List (List AV)} (h : H.get id = some (.row fz sz rs)) : rowSz H id = some sz := by unfold rowSz; rw [h]
theorem RepB.mono {B : Nat} {K K' : Heap} {sz : Nat} {S : AV} {rows : List (List AV)} (h : RepB B K sz S rows) (hk : ∀ id, B ≤ id → K.get id = some (.row false sz rows) → K'.get id = some (.row false sz rows)) : RepB B K' sz S rows := by
  rcases h with h | ⟨id, hb, h1, h2⟩
  · exact .inl h
  · exact .inr ⟨id, hb, h1, hk id hb h2⟩
theorem rep_take {α : Type} (g : α → List AV) {l : List α} {i : Nat} (h : i < l.length) : (l.take (i + 1)).map g = (l.take i).map g ++ [g l[i]] := by
  rw [List.take_succ_eq_append_getElem h, List.map_append]; rfl
theorem frz_rep {K : Heap} {L : List Blk} {sz : Nat} {S : AV} {rows : List (List AV)} (h : Rep (hx K L) sz S rows) (n : Nat) : ∃ K', frz (n + 1) (hx K L) S = some (.lst rows, K') := by
  rcases h with ⟨rfl, rfl⟩ | ⟨id, rfl, h⟩
  · exact ⟨_, rfl⟩
  · refine ⟨(hx K L).set id (.row true sz rows), ?_⟩
    rw [frz_sl, h]
    simp
theorem hxe_get' (L : List Blk) (i : Nat) : (hx Heap.empty L).get i = L[i]? := by simp [hx, Heap.get, Heap.empty]
theorem hxe_nx (L : List Blk) : (hx Heap.empty L).next = L.length := by simp [hx, Heap.next, Heap.empty]
theorem hx_hx (K : Heap) (L M : List Blk) : hx (hx K L) M = hx K (L ++ M) := by simp [hx]
/-- Right runs behind e. -/
def rgtL : Int → List RunM → Bool
  | _, [] => true
  | e, x :: xs => mayM x && (decide (e < x.1) && rgtL (endM x) xs)
def rightM (l : List RunM) : Bool := rgtL (-1) l
def prevE (l : List RunM) (i : Nat) : Int := if h : 0 < i ∧ i - 1 < l.length then endM l[i - 1] else -1
theorem prevE_0 (l : List RunM) : prevE l 0 = -1 := by simp [prevE]
theorem prevE_s {l : List RunM} {i : Nat} (h : i < l.length) : prevE l (i + 1) = endM l[i] := by
  unfold prevE
  rw [dif_pos ⟨by omega, by simpa using h⟩]
  simp
theorem rgt_step {l : List RunM} {i : Nat} (h : i < l.length) : rgtL (prevE l i) (l.drop i) = (mayM l[i] && (decide (prevE l i < l[i].1) && rgtL (prevE l (i + 1)) (l.drop (i + 1)))) := by
  rw [List.drop_eq_getElem_cons h, prevE_s h]
  rfl
theorem may_end {x : RunM} (h : mayM x = true) : -9223372036854775808 ≤ x.1 + x.2 ∧ x.1 + x.2 < 9223372036854775808 := by
  rw [mayM_iff] at h
  omega
theorem p107 (x : RunM) : pureV ft (.fn (.func 107) [] []) [.agg (runC x)] = some (false, []) := rfl
theorem l40 (l : List RunM) (hl : l.length ≤ 2000000) {Q : AExit → Env → Heap → Prop}
   (hex : ∀ f' K, rightM l = true → Q (.exit 0) (mkE 31 f') (hx K []))
   (hret : ∀ f' K, rightM l = false → f' 2 = boolA false → Q .ret (mkE 31 f') (hx K [])) :
   ∀ (d i : Nat) (K : Heap) (f : Nat → AV), i + d = l.length → rightM l = rgtL (prevE l i) (l.drop i) → (∀ j (hj : j < l.length), i = j + 1 → mayM l[j] = true) → f 0 = encR l → f 5 = encR l → f 6 = int l.length → f 7 = int i →
    AW ft (.loop c40L0) (mkE 31 f) (hx K []) Q := by
  intro d
  induction d with
  | zero =>
    intro i K f hd hc hm h0 h5 h6 h7
    have g1 : ((i : Int) < l.length) = False := by simp; omega
    rw [AW_loop]
    unfold c40L0
    rw [List.drop_eq_nil_of_le (by omega)] at hc
    simp only [↓vp, vq0, vq1, vq2, vq3, vr0, vr1, vr2, vr3, vr4, vr5, vr6, vr7, vr8, vr9, vr10, vr11, vr12, vr13, vr14, vr15, vr16, vr17, vr18, vr19, vr20, vr21, vr22, vr23, vr24, vr25, vr26, vr27, vr28, vr29, vr30, vr31, vr32, vr33, vr34, opS, fpS, extO, okP, pack, nAl, allocA, shId, leaves, fillA, fillR, splice, Nat.reduceLT, Nat.reduceEqDiff, Nat.reduceLeDiff, Nat.reduceAdd, Nat.reduceSub, Nat.reduceMul, Int.reduceBEq, Int.reduceBNe, Int.reduceLT, Int.reduceLE, Int.reduceEq, reduceIte, reduceCtorEq, da, int, boolA, h6, h7, g1]
    exact hex _ K (by rw [hc]; rfl)
  | succ d ih =>
    intro i K f hd hc hm h0 h5 h6 h7
    have g1 : ((i : Int) < l.length) = True := by simp; omega
    have gi : i < l.length := by omega
    have w1 := wrap_succ (show i < 9223372036854775807 by omega)
    rw [rgt_step gi] at hc
    have km := fun K L Q => @k106 l[i] K L Q
    simp only [runC, int] at km
    rw [AW_loop]
    unfold c40L0
    cases c1 : mayM l[i] with
    | false =>
      rw [c1, Bool.false_and] at hc
      rw [c1] at km
      simp only [↓vp, vq0, vq1, vq2, vq3, vr0, vr1, vr2, vr3, vr4, vr5, vr6, vr7, vr8, vr9, vr10, vr11, vr12, vr13, vr14, vr15, vr16, vr17, vr18, vr19, vr20, vr21, vr22, vr23, vr24, vr25, vr26, vr27, vr28, vr29, vr30, vr31, vr32, vr33, vr34, opS, fpS, extO, okP, pack, nAl, allocA, shId, leaves, fillA, fillR, splice, Nat.reduceLT, Nat.reduceEqDiff, Nat.reduceLeDiff, Nat.reduceAdd, Nat.reduceSub, Nat.reduceMul, Int.reduceBEq, Int.reduceBNe, Int.reduceLT, Int.reduceLE, Int.reduceEq, reduceIte, reduceCtorEq, da, int, boolA, dr, h0, h5, h6, h7, g1, atR gi, cR gi, runC, km]
      rw [← hx_nil (hx K _)]
      refine hret _ _ hc ?_
      simp only [↓vp, vq0, vq1, vq2, vq3, vr0, vr1, vr2, vr3, vr4, vr5, vr6, vr7, vr8, vr9, vr10, vr11, vr12, vr13, vr14, vr15, vr16, vr17, vr18, vr19, vr20, vr21, vr22, vr23, vr24, vr25, vr26, vr27, vr28, vr29, vr30, vr31, vr32, vr33, vr34, opS, fpS, extO, okP, pack, nAl, allocA, shId, leaves, fillA, fillR, splice, Nat.reduceLT, Nat.reduceEqDiff, Nat.reduceLeDiff, Nat.reduceAdd, Nat.reduceSub, Nat.reduceMul, Int.reduceBEq, Int.reduceBNe, Int.reduceLT, Int.reduceLE, Int.reduceEq, reduceIte, reduceCtorEq, da, int, boolA]
    | true =>
      rw [c1, Bool.true_and] at hc
      rw [c1] at km
      cases i with
      | zero =>
        have hb := (mayM_iff.1 c1).1
        rw [prevE_0, decide_eq_true (by omega), Bool.true_and] at hc
        have g2 : (((0 : Nat) : Int) > 0) = False := eq_false (by omega)
        simp only [↓vp, vq0, vq1, vq2, vq3, vr0, vr1, vr2, vr3, vr4, vr5, vr6, vr7, vr8, vr9, vr10, vr11, vr12, vr13, vr14, vr15, vr16, vr17, vr18, vr19, vr20, vr21, vr22, vr23, vr24, vr25, vr26, vr27, vr28, vr29, vr30, vr31, vr32, vr33, vr34, opS, fpS, extO, okP, pack, nAl, allocA, shId, leaves, fillA, fillR, splice, Nat.reduceLT, Nat.reduceEqDiff, Nat.reduceLeDiff, Nat.reduceAdd, Nat.reduceSub, Nat.reduceMul, Int.reduceBEq, Int.reduceBNe, Int.reduceLT, Int.reduceLE, Int.reduceEq, reduceIte, reduceCtorEq, da, int, boolA, dr, h0, h5, h6, h7, g1, g2, atR gi, cR gi, runC, km, w1]
        rw [← hx_nil (hx K _)]
        refine ih 1 _ _ (by omega) hc (fun j hj e => by obtain rfl : j = 0 := by omega
                                                        exact c1) ?_ ?_ ?_ ?_ <;> simp only [↓vp, vq0, vq1, vq2, vq3, vr0, vr1, vr2, vr3, vr4, vr5, vr6, vr7, vr8, vr9, vr10, vr11, vr12, vr13, vr14, vr15, vr16, vr17, vr18, vr19, vr20, vr21, vr22, vr23, vr24, vr25, vr26, vr27, vr28, vr29, vr30, vr31, vr32, vr33, vr34, opS, fpS, extO, okP, pack, nAl, allocA, shId, leaves, fillA, fillR, splice, Nat.reduceLT, Nat.reduceEqDiff, Nat.reduceLeDiff, Nat.reduceAdd, Nat.reduceSub, Nat.reduceMul, Int.reduceBEq, Int.reduceBNe, Int.reduceLT, Int.reduceLE, Int.reduceEq, reduceIte, reduceCtorEq, da, int, boolA, h0, h5, h6]
      | succ j =>
        have hj : j < l.length := by omega
        have mj := hm j hj rfl
        have ke := fun K L Q => @k107 l[j] (may_end mj) K L Q
        have kp := p107 l[j]
        simp only [runC, int] at ke kp
        have w2 : IntKind.i64.wrap (((j + 1 : Nat) : Int) - 1) = (j : Int) := by rw [wrap_i64 (by omega)]; omega
        have g2 : (((j + 1 : Nat) : Int) > 0) = True := eq_true (by omega)
        rw [prevE_s hj] at hc
        by_cases c2 : endM l[j] < l[j + 1].1
        · have d2 : (l[j + 1].1 ≤ endM l[j]) = False := eq_false (by omega)
          simp only [↓vp, vq0, vq1, vq2, vq3, vr0, vr1, vr2, vr3, vr4, vr5, vr6, vr7, vr8, vr9, vr10, vr11, vr12, vr13, vr14, vr15, vr16, vr17, vr18, vr19, vr20, vr21, vr22, vr23, vr24, vr25, vr26, vr27, vr28, vr29, vr30, vr31, vr32, vr33, vr34, opS, fpS, extO, okP, pack, nAl, allocA, shId, leaves, fillA, fillR, splice, Nat.reduceLT, Nat.reduceEqDiff, Nat.reduceLeDiff, Nat.reduceAdd, Nat.reduceSub, Nat.reduceMul, Int.reduceBEq, Int.reduceBNe, Int.reduceLT, Int.reduceLE, Int.reduceEq, reduceIte, reduceCtorEq, da, int, boolA, dr, h0, h5, h6, h7, g1, g2, w2, atR gi, cR gi, atR hj, cR hj, runC, km, ke, kp, d2, w1]
          rw [← hx_nil (hx K _)]
          refine ih (j + 2) _ _ (by omega) (by rw [hc, decide_eq_true c2, Bool.true_and]) (fun k hk e => by obtain rfl : k = j + 1 := by omega
                                                                                                            exact c1) ?_ ?_ ?_ ?_ <;> simp only [↓vp, vq0, vq1, vq2, vq3, vr0, vr1, vr2, vr3, vr4, vr5, vr6, vr7, vr8, vr9, vr10, vr11, vr12, vr13, vr14, vr15, vr16, vr17, vr18, vr19, vr20, vr21, vr22, vr23, vr24, vr25, vr26, vr27, vr28, vr29, vr30, vr31, vr32, vr33, vr34, opS, fpS, extO, okP, pack, nAl, allocA, shId, leaves, fillA, fillR, splice, Nat.reduceLT, Nat.reduceEqDiff, Nat.reduceLeDiff, Nat.reduceAdd, Nat.reduceSub, Nat.reduceMul, Int.reduceBEq, Int.reduceBNe, Int.reduceLT, Int.reduceLE, Int.reduceEq, reduceIte, reduceCtorEq, da, int, boolA, h0, h5, h6]
        · have d2 : (l[j + 1].1 ≤ endM l[j]) = True := eq_true (by omega)
          rw [decide_eq_false c2, Bool.false_and] at hc
          simp only [↓vp, vq0, vq1, vq2, vq3, vr0, vr1, vr2, vr3, vr4, vr5, vr6, vr7, vr8, vr9, vr10, vr11, vr12, vr13, vr14, vr15, vr16, vr17, vr18, vr19, vr20, vr21, vr22, vr23, vr24, vr25, vr26, vr27, vr28, vr29, vr30, vr31, vr32, vr33, vr34, opS, fpS, extO, okP, pack, nAl, allocA, shId, leaves, fillA, fillR, splice, Nat.reduceLT, Nat.reduceEqDiff, Nat.reduceLeDiff, Nat.reduceAdd, Nat.reduceSub, Nat.reduceMul, Int.reduceBEq, Int.reduceBNe, Int.reduceLT, Int.reduceLE, Int.reduceEq, reduceIte, reduceCtorEq, da, int, boolA, dr, h0, h5, h6, h7, g1, g2, w2, atR gi, cR gi, atR hj, cR hj, runC, km, ke, kp, d2]
          rw [← hx_nil (hx K _)]
          refine hret _ _ hc ?_
          simp only [↓vp, vq0, vq1, vq2, vq3, vr0, vr1, vr2, vr3, vr4, vr5, vr6, vr7, vr8, vr9, vr10, vr11, vr12, vr13, vr14, vr15, vr16, vr17, vr18, vr19, vr20, vr21, vr22, vr23, vr24, vr25, vr26, vr27, vr28, vr29, vr30, vr31, vr32, vr33, vr34, opS, fpS, extO, okP, pack, nAl, allocA, shId, leaves, fillA, fillR, splice, Nat.reduceLT, Nat.reduceEqDiff, Nat.reduceLeDiff, Nat.reduceAdd, Nat.reduceSub, Nat.reduceMul, Int.reduceBEq, Int.reduceBNe, Int.reduceLT, Int.reduceLE, Int.reduceEq, reduceIte, reduceCtorEq, da, int, boolA]
theorem s40 (l : List RunM) (hl : l.length ≤ 2000000) (H : Heap) : callL ft (.fn (.func 40) [] []) [encR l] H = some (boolA (rightM l), H) := by
  refine call_p (as' := [encR l]) rfl rfl (by simp) ?_
  unfold c40 r40
  simp only [↓vp, vq0, vq1, vq2, vq3, vr0, vr1, vr2, vr3, vr4, vr5, vr6, vr7, vr8, vr9, vr10, vr11, vr12, vr13, vr14, vr15, vr16, vr17, vr18, vr19, vr20, vr21, vr22, vr23, vr24, vr25, vr26, vr27, vr28, vr29, vr30, vr31, vr32, vr33, vr34, opS, fpS, extO, okP, pack, nAl, allocA, shId, leaves, fillA, fillR, splice, Nat.reduceLT, Nat.reduceEqDiff, Nat.reduceLeDiff, Nat.reduceAdd, Nat.reduceSub, Nat.reduceMul, Int.reduceBEq, Int.reduceBNe, Int.reduceLT, Int.reduceLE, Int.reduceEq, reduceIte, reduceCtorEq, da, int, boolA, dr]
  rw [← hx_nil (Heap.empty)]
  refine l40 l hl (fun f' K hm => ?_) (fun f' K hm q2 => ?_) l.length 0 _ _ (by simp) (by rw [prevE_0]; rfl) (by intro j hj h; omega) ?_ ?_ ?_ ?_
  · unfold c40R1
    simp only [↓vp, vq0, vq1, vq2, vq3, vr0, vr1, vr2, vr3, vr4, vr5, vr6, vr7, vr8, vr9, vr10, vr11, vr12, vr13, vr14, vr15, vr16, vr17, vr18, vr19, vr20, vr21, vr22, vr23, vr24, vr25, vr26, vr27, vr28, vr29, vr30, vr31, vr32, vr33, vr34, opS, fpS, extO, okP, pack, nAl, allocA, shId, leaves, fillA, fillR, splice, Nat.reduceLT, Nat.reduceEqDiff, Nat.reduceLeDiff, Nat.reduceAdd, Nat.reduceSub, Nat.reduceMul, Int.reduceBEq, Int.reduceBNe, Int.reduceLT, Int.reduceLE, Int.reduceEq, reduceIte, reduceCtorEq, da, int, boolA, RetP_go, resT, resC, resN, retV1, retV2, retV3, retV0, frzFZ, takeM, Option.some.injEq, hm]
  · simp only [↓vp, vq0, vq1, vq2, vq3, vr0, vr1, vr2, vr3, vr4, vr5, vr6, vr7, vr8, vr9, vr10, vr11, vr12, vr13, vr14, vr15, vr16, vr17, vr18, vr19, vr20, vr21, vr22, vr23, vr24, vr25, vr26, vr27, vr28, vr29, vr30, vr31, vr32, vr33, vr34, opS, fpS, extO, okP, pack, nAl, allocA, shId, leaves, fillA, fillR, splice, Nat.reduceLT, Nat.reduceEqDiff, Nat.reduceLeDiff, Nat.reduceAdd, Nat.reduceSub, Nat.reduceMul, Int.reduceBEq, Int.reduceBNe, Int.reduceLT, Int.reduceLE, Int.reduceEq, reduceIte, reduceCtorEq, da, int, boolA, RetP_go, resT, resC, resN, retV1, retV2, retV3, retV0, frzFZ, takeM, Option.some.injEq, hm, q2]
  all_goals first | rfl | (simp only [↓vp, vq0, vq1, vq2, vq3, vr0, vr1, vr2, vr3, vr4, vr5, vr6, vr7, vr8, vr9, vr10, vr11, vr12, vr13, vr14, vr15, vr16, vr17, vr18, vr19, vr20, vr21, vr22, vr23, vr24, vr25, vr26, vr27, vr28, vr29, vr30, vr31, vr32, vr33, vr34, opS, fpS, extO, okP, pack, nAl, allocA, shId, leaves, fillA, fillR, splice, Nat.reduceLT, Nat.reduceEqDiff, Nat.reduceLeDiff, Nat.reduceAdd, Nat.reduceSub, Nat.reduceMul, Int.reduceBEq, Int.reduceBNe, Int.reduceLT, Int.reduceLE, Int.reduceEq, reduceIte, reduceCtorEq, da, int, boolA]; done)
theorem k40 {l : List RunM} (hl : l.length ≤ 2000000) {K : Heap} {L : List Blk} {Q : AV → Heap → Prop} : KW ft (.fn (.func 40) [] []) [encR l] (hx K L) Q ↔ Q (boolA (rightM l)) (hx K L) := KW_of (s40 l hl _)
/-- A right row, or none. -/
def cleanM (l : List RunM) : List RunM := if rightM l then l else []
theorem cleanM_len (l : List RunM) : (cleanM l).length ≤ l.length := by unfold cleanM; split <;> simp
theorem s105 (l : List RunM) (hl : l.length ≤ 2000000) (H : Heap) : callL ft (.fn (.func 105) [] []) [encR l] H = some (encR (cleanM l), H) := by
  refine call_p (as' := [encR l]) rfl rfl (by simp) ?_
  unfold c105 r105 cleanM
  have kr := fun K L Q => @k40 l hl K L Q
  cases e : rightM l with
  | true =>
    rw [e] at kr
    simp only [↓vp, vq0, vq1, vq2, vq3, vr0, vr1, vr2, vr3, vr4, vr5, vr6, vr7, vr8, vr9, vr10, vr11, vr12, vr13, vr14, vr15, vr16, vr17, vr18, vr19, vr20, vr21, vr22, vr23, vr24, vr25, vr26, vr27, vr28, vr29, vr30, vr31, vr32, vr33, vr34, opS, fpS, extO, okP, pack, nAl, allocA, shId, leaves, fillA, fillR, splice, Nat.reduceLT, Nat.reduceEqDiff, Nat.reduceLeDiff, Nat.reduceAdd, Nat.reduceSub, Nat.reduceMul, Int.reduceBEq, Int.reduceBNe, Int.reduceLT, Int.reduceLE, Int.reduceEq, reduceIte, reduceCtorEq, da, int, boolA, RetP_go, resT, resC, resN, retV1, retV2, retV3, retV0, frzFZ, takeM, Option.some.injEq, dr, kr]
  | false =>
    rw [e] at kr
    simp only [↓vp, vq0, vq1, vq2, vq3, vr0, vr1, vr2, vr3, vr4, vr5, vr6, vr7, vr8, vr9, vr10, vr11, vr12, vr13, vr14, vr15, vr16, vr17, vr18, vr19, vr20, vr21, vr22, vr23, vr24, vr25, vr26, vr27, vr28, vr29, vr30, vr31, vr32, vr33, vr34, opS, fpS, extO, okP, pack, nAl, allocA, shId, leaves, fillA, fillR, splice, Nat.reduceLT, Nat.reduceEqDiff, Nat.reduceLeDiff, Nat.reduceAdd, Nat.reduceSub, Nat.reduceMul, Int.reduceBEq, Int.reduceBNe, Int.reduceLT, Int.reduceLE, Int.reduceEq, reduceIte, reduceCtorEq, da, int, boolA, RetP_go, resT, resC, resN, retV1, retV2, retV3, retV0, frzFZ, takeM, Option.some.injEq, dr, kr]
    rfl
theorem k105 {l : List RunM} (hl : l.length ≤ 2000000) {K : Heap} {L : List Blk} {Q : AV → Heap → Prop} : KW ft (.fn (.func 105) [] []) [encR l] (hx K L) Q ↔ Q (encR (cleanM l)) (hx K L) := KW_of (s105 l hl _)
end Go.VI
