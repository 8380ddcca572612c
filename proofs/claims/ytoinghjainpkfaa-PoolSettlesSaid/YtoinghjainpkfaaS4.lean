import Derived.Test.YtoinghjainpkfaaS3
import Derived.Sort.AssemblyPlain
import Derived.Lib.BitFns
/- What the claim hangs on, part 4: VXI VXJ VXK VXL VXM VXN VXO VXP. -/
set_option linter.unusedVariables false
set_option linter.unusedSimpArgs false
set_option maxRecDepth 100000
namespace Go.VI
attribute [local congr] AW_congr OW_congr DW_congr NW_congr VW_congr GW_congr PW_congr KW_congr ite_congr' GV_congr CV_congr dx_congr dOW_congr dop_congr CP_congr AQ_congr AZ_congr callD_congr NQ_congr
section
variable {ft : FT} {sz b ins ov rot idx : Nat} {z : List AV} {H : Heap} {id len i j cn : Nat} {v : AV} {rsF rows xs : List (List AV)}
theorem rep_walk (hins : ft ins = some (.prim (insP sz b))) (hov : ft ov = some (.prim ovP)) (hz : z.length = sz) (hid : id < H.next) (hcn : rsF.length = cn) (hlen : len ≤ rows.length) (hpre : rsF.take rows.length = rows) (hall : ∀ r ∈ rsF, r.length = sz) (hij : i ≤ j) (hj : j ≤ len) (h1 : 1 < sz) (hvr : vRows H id v = some xs) (hxa : allSz sz xs = true) (hb : (len + xs.length) * b ≤ 140737488355328) (b0 : 0 < b) :
    dCall ft (kap id cn) 224 [.tmp 8] (repC sz b z ins ov rot idx) [.sl id 0 len, .sc (.int .i64 (i : Int)), .sc (.int .i64 (j : Int)), v] (H.set id (.row false sz rsF)) (FinR H id sz 0 ((rows.take len).take i ++ xs ++ (rows.take len).drop j)) := by
  have cdo : ∀ F C, calleeD ft (.fn (.func ov) F C) = none := fun _ _ => calleeD_det (isDp_prim hov)
  have cdi : ∀ F C, calleeD ft (.fn (.func ins) F C) = none := fun _ _ => calleeD_det (isDp_prim hins)
  have hv := vOk_of hid h1 hvr hxa
  have hrl : rows.length ≤ rsF.length := by have := congrArg List.length hpre; simp at this; omega
  have hlb : len + xs.length ≤ 140737488355328 := Nat.le_trans (Nat.le_mul_of_pos_right _ b0) hb
  have hR : ∀ R, (H.set id R).get id = some R := fun R => Heap.get_set_self _ hid
  have gq := fun R L => get_oldx (hR R) L
  have sq : ∀ R L b', (hx (H.set id R) L).set id b' = hx (H.set id b') L := fun R L b' => by rw [hx_set_old _ _ _ _ (by simpa using hid), set_set]
  have hw : ∀ k : Nat, k ≤ 140737488355328 → IntKind.i64.wrap (k : Int) = k := fun k hk => wrap_i64 (by omega)
  have hA : rsF.take len = rows.take len := by rw [← hpre, List.take_take, Nat.min_eq_left hlen]
  have lA : (rows.take len).length = len := by simp; omega
  have hAi : (rows.take len).take i = rsF.take i := by rw [← hA, List.take_take, Nat.min_eq_left (by omega)]
  have lAi : (rsF.take i).length = i := by simp; omega
  generalize hDD : (rows.take len).drop j = D
  have lD : D.length = len - j := by rw [← hDD]; simp; omega
  have hD : (rsF.drop j).take (len - j) = D := by rw [← hDD, ← hA, List.drop_take]
  have lR : ((rows.take len).take i ++ xs ++ D).length = i + xs.length + (len - j) := by
    simp only [List.length_append, lD]
    rw [hAi, lAi]
  have aD : allSz sz D = true := by
    simp only [allSz, List.all_eq_true, beq_iff_eq]
    intro r hr
    rw [← hD] at hr
    exact hall r (List.mem_of_mem_drop (List.mem_of_mem_take hr))
  have hrw := hv.rows
  have hlv := hv.len
  obtain ⟨tv, q0⟩ : ∃ tv, ∀ L, sliceA (hx (H.set id (.row false sz rsF)) L) sz (.sl id 0 len) (some (i : Int)) (some (j : Int)) none = some tv := ⟨_, fun L => sl_lh (gq _ L) (by omega) hij (by omega)⟩
  have q1 : ∀ L, sliceA (hx (H.set id (.row false sz rsF)) L) sz (.sl id 0 len) none (some (i : Int)) none = some (.sl id 0 i) := fun L => sl_hi (gq _ L) (by omega) (by omega)
  unfold dCall
  rw [enterE_mkE _ _ (by simp), ← hx_nil (H.set id _)]
  unfold repC
  by_cases e1 : i = j
  · subst e1
    have d1 : ((i : Int) == (i : Int)) = true := by simp
    have hk : insP sz b [.sl id 0 len, .sc (.int .i64 (i : Int)), v] (hx (H.set id (.row false sz rsF)) []) = some (.sl (H.next + 0) 0 ((rows.take len).take i ++ xs ++ D).length, (hx (H.set id .dead) (List.replicate 0 .dead)).put (H.next + 0) (.row false sz ((rows.take len).take i ++ xs ++ D))) := by
      unfold insP cutP
      simp only [gq, vRows_set hid hvr, Option.bind_some]
      rw [if_pos ⟨by trivial, h1, by omega, by omega, by omega, by omega, hxa, hb⟩]
      simp only [hx_nil, Heap.next_set, set_set, List.replicate_zero, Int.toNat_natCast, hA, hDD]
    have kk := fun Q => k_prim hins (Q := Q) hk (by simp only [List.replicate_zero, hx_nil]; simpa using Heap.next_put_le (H.set id .dead) _ (H.next + 0))
    simp only [vx, ↓vp, vq0, vq1, vq2, vq3, vr0, vr1, vr2, vr3, vr4, vr5, vr6, vr7, vr8, vr9, vr10, vr11, vr12, vr13, vr14, vr15, vr16, vr17, vr18, vr19, vr20, vr21, vr22, vr23, vr24, vr25, vr26, vr27, vr28, vr29, vr30, vr31, vr32, vr33, vr34, opS, fpS, extO, okP, pack, nAl, allocA, shId, leaves, fillA, fillR, splice, Nat.reduceLT, Nat.reduceEqDiff, Nat.reduceLeDiff, Nat.reduceAdd, Nat.reduceSub, Nat.reduceMul, Int.reduceBEq, Int.reduceBNe, Int.reduceLT, Int.reduceLE, Int.reduceEq, reduceIte, reduceCtorEq, opI0, opI1, q0, d1, kk, cdi]
    rw [res1 (by decide)]
    simp only [↓vp, vq0, vq1, vq2, vq3, vr0, vr1, vr2, vr3, vr4, vr5, vr6, vr7, vr8, vr9, vr10, vr11, vr12, vr13, vr14, vr15, vr16, vr17, vr18, vr19, vr20, vr21, vr22, vr23, vr24, vr25, vr26, vr27, vr28, vr29, vr30, vr31, vr32, vr33, vr34, opS, fpS, extO, okP, pack, nAl, allocA, shId, leaves, fillA, fillR, splice, Nat.reduceLT, Nat.reduceEqDiff, Nat.reduceLeDiff, Nat.reduceAdd, Nat.reduceSub, Nat.reduceMul, Int.reduceBEq, Int.reduceBNe, Int.reduceLT, Int.reduceLE, Int.reduceEq, reduceIte, reduceCtorEq]
    refine .inr (.inr ⟨rfl, ?_⟩)
    rw [List.replicate_zero, hx_nil, Nat.add_zero]
    have := hx_put0 (H.set id .dead) [] (.row false sz ((rows.take len).take i ++ xs ++ D))
    rw [Heap.next_set, hx_nil] at this
    rw [this]
    rfl
  have d1 : ((i : Int) == (j : Int)) = false := beq_eq_false_iff_ne.2 (by omega)
  by_cases e2 : j = len
  · subst e2
    have d2 : ((j : Int) == (j : Int)) = true := by simp
    have hDn : D = [] := List.eq_nil_of_length_eq_zero (by omega)
    subst hDn
    have lR' : ((rows.take j).take i ++ xs).length = i + xs.length := by
      rw [List.append_nil] at lR
      omega
    simp only [vx, ↓vp, vq0, vq1, vq2, vq3, vr0, vr1, vr2, vr3, vr4, vr5, vr6, vr7, vr8, vr9, vr10, vr11, vr12, vr13, vr14, vr15, vr16, vr17, vr18, vr19, vr20, vr21, vr22, vr23, vr24, vr25, vr26, vr27, vr28, vr29, vr30, vr31, vr32, vr33, vr34, opS, fpS, extO, okP, pack, nAl, allocA, shId, leaves, fillA, fillR, splice, Nat.reduceLT, Nat.reduceEqDiff, Nat.reduceLeDiff, Nat.reduceAdd, Nat.reduceSub, Nat.reduceMul, Int.reduceBEq, Int.reduceBNe, Int.reduceLT, Int.reduceLE, Int.reduceEq, reduceIte, reduceCtorEq, opI0, opI1, q0, q1, d1, d2, hrw]
    by_cases c3 : i + xs.length ≤ cn
    · refine AQ_in' (kap_self _ _) (gq _ _) (by omega) (Nat.le_trans (Nat.mul_le_mul_right _ (by omega)) hb) hxa (by omega) ?_
      rw [sq, Nat.zero_add]
      have lS : (spl rsF i xs).length = cn := by rw [spl_len (by omega), hcn]
      by_cases c4 : i + xs.length < j
      · have d4 : decide (((i + xs.length : Nat) : Int) < (j : Int)) = true := by simp; omega
        have q2 : ∀ L, sliceA (hx (H.set id (.row false sz (spl rsF i xs))) L) sz (.sl id 0 j) (some ((i + xs.length : Nat) : Int)) none none = some (.sl id (i + xs.length) (j - (i + xs.length))) := fun L => by rw [sl_lo (gq _ L) (by omega) (by omega), if_neg (by omega)]
        have p2 : ∀ L, clrA (hx (H.set id (.row false sz (spl rsF i xs))) L) sz z (.sl id (i + xs.length) (j - (i + xs.length))) = some (hx (H.set id (.row false sz (spl (spl rsF i xs) (i + xs.length) (List.replicate (j - (i + xs.length)) z)))) L) := fun L => by
          rw [clr_sl (gq _ _) (by omega), sq]
        simp only [vx, opS_clr, ↓vp, vq0, vq1, vq2, vq3, vr0, vr1, vr2, vr3, vr4, vr5, vr6, vr7, vr8, vr9, vr10, vr11, vr12, vr13, vr14, vr15, vr16, vr17, vr18, vr19, vr20, vr21, vr22, vr23, vr24, vr25, vr26, vr27, vr28, vr29, vr30, vr31, vr32, vr33, vr34, opS, fpS, extO, okP, pack, nAl, allocA, shId, leaves, fillA, fillR, splice, Nat.reduceLT, Nat.reduceEqDiff, Nat.reduceLeDiff, Nat.reduceAdd, Nat.reduceSub, Nat.reduceMul, Int.reduceBEq, Int.reduceBNe, Int.reduceLT, Int.reduceLE, Int.reduceEq, reduceIte, reduceCtorEq, opI0, opI1, d4, q2, p2]
        rw [res1 (by decide)]
        simp only [↓vp, vq0, vq1, vq2, vq3, vr0, vr1, vr2, vr3, vr4, vr5, vr6, vr7, vr8, vr9, vr10, vr11, vr12, vr13, vr14, vr15, vr16, vr17, vr18, vr19, vr20, vr21, vr22, vr23, vr24, vr25, vr26, vr27, vr28, vr29, vr30, vr31, vr32, vr33, vr34, opS, fpS, extO, okP, pack, nAl, allocA, shId, leaves, fillA, fillR, splice, Nat.reduceLT, Nat.reduceEqDiff, Nat.reduceLeDiff, Nat.reduceAdd, Nat.reduceSub, Nat.reduceMul, Int.reduceBEq, Int.reduceBNe, Int.reduceLT, Int.reduceLE, Int.reduceEq, reduceIte, reduceCtorEq]
        refine fin_in (g := 0) lR'.symm (by rw [spl_len (by simp; omega)]; omega) ?_
        rw [List.drop_zero, spl_pre (by simp; omega), spl_end (by omega), hAi]
      · have d4 : decide (((i + xs.length : Nat) : Int) < (j : Int)) = false := by simp; omega
        simp only [vx, ↓vp, vq0, vq1, vq2, vq3, vr0, vr1, vr2, vr3, vr4, vr5, vr6, vr7, vr8, vr9, vr10, vr11, vr12, vr13, vr14, vr15, vr16, vr17, vr18, vr19, vr20, vr21, vr22, vr23, vr24, vr25, vr26, vr27, vr28, vr29, vr30, vr31, vr32, vr33, vr34, opS, fpS, extO, okP, pack, nAl, allocA, shId, leaves, fillA, fillR, splice, Nat.reduceLT, Nat.reduceEqDiff, Nat.reduceLeDiff, Nat.reduceAdd, Nat.reduceSub, Nat.reduceMul, Int.reduceBEq, Int.reduceBNe, Int.reduceLT, Int.reduceLE, Int.reduceEq, reduceIte, reduceCtorEq, opI0, opI1, d4]
        rw [res1 (by decide)]
        simp only [↓vp, vq0, vq1, vq2, vq3, vr0, vr1, vr2, vr3, vr4, vr5, vr6, vr7, vr8, vr9, vr10, vr11, vr12, vr13, vr14, vr15, vr16, vr17, vr18, vr19, vr20, vr21, vr22, vr23, vr24, vr25, vr26, vr27, vr28, vr29, vr30, vr31, vr32, vr33, vr34, opS, fpS, extO, okP, pack, nAl, allocA, shId, leaves, fillA, fillR, splice, Nat.reduceLT, Nat.reduceEqDiff, Nat.reduceLeDiff, Nat.reduceAdd, Nat.reduceSub, Nat.reduceMul, Int.reduceBEq, Int.reduceBNe, Int.reduceLT, Int.reduceLE, Int.reduceEq, reduceIte, reduceCtorEq]
        refine fin_in (g := 0) lR'.symm (by omega) ?_
        rw [List.drop_zero, spl_end (by omega), hAi]
    · have d4 : decide (((i + xs.length : Nat) : Int) < (j : Int)) = false := by simp; omega
      refine AQ_new (kap_self _ _) (gq _ _) (by omega) (Nat.le_trans (Nat.mul_le_mul_right _ (by omega)) hb) hxa (by omega) ?_
      simp only [vx, ↓vp, vq0, vq1, vq2, vq3, vr0, vr1, vr2, vr3, vr4, vr5, vr6, vr7, vr8, vr9, vr10, vr11, vr12, vr13, vr14, vr15, vr16, vr17, vr18, vr19, vr20, vr21, vr22, vr23, vr24, vr25, vr26, vr27, vr28, vr29, vr30, vr31, vr32, vr33, vr34, opS, fpS, extO, okP, pack, nAl, allocA, shId, leaves, fillA, fillR, splice, Nat.reduceLT, Nat.reduceEqDiff, Nat.reduceLeDiff, Nat.reduceAdd, Nat.reduceSub, Nat.reduceMul, Int.reduceBEq, Int.reduceBNe, Int.reduceLT, Int.reduceLE, Int.reduceEq, reduceIte, reduceCtorEq, opI0, opI1, d4]
      rw [res1 (by decide)]
      simp only [↓vp, vq0, vq1, vq2, vq3, vr0, vr1, vr2, vr3, vr4, vr5, vr6, vr7, vr8, vr9, vr10, vr11, vr12, vr13, vr14, vr15, vr16, vr17, vr18, vr19, vr20, vr21, vr22, vr23, vr24, vr25, vr26, vr27, vr28, vr29, vr30, vr31, vr32, vr33, vr34, opS, fpS, extO, okP, pack, nAl, allocA, shId, leaves, fillA, fillR, splice, Nat.reduceLT, Nat.reduceEqDiff, Nat.reduceLeDiff, Nat.reduceAdd, Nat.reduceSub, Nat.reduceMul, Int.reduceBEq, Int.reduceBNe, Int.reduceLT, Int.reduceLE, Int.reduceEq, reduceIte, reduceCtorEq]
      refine fin_new lR'.symm ?_
      try rw [List.drop_zero]
      rw [hAi]
  have d2 : ((j : Int) == (len : Int)) = false := beq_eq_false_iff_ne.2 (by omega)
  have hjl : j < len := by omega
  generalize hT : i + xs.length + (len - j) = T at lR
  have hTb : T ≤ len + xs.length := by omega
  have w1 : IntKind.i64.wrap ((i : Int) + (xs.length : Int)) = ((i + xs.length : Nat) : Int) := by rw [← Int.natCast_add]; exact hw _ (by omega)
  have w2 : IntKind.i64.wrap (((i + xs.length : Nat) : Int) + ((len - j : Nat) : Int)) = (T : Int) := by
    rw [show ((i + xs.length : Nat) : Int) + ((len - j : Nat) : Int) = (T : Int) by omega]
    exact hw _ (by omega)
  have w3 : IntKind.i64.wrap ((T : Int) - (i : Int)) = ((T - i : Nat) : Int) := by
    rw [show (T : Int) - (i : Int) = ((T - i : Nat) : Int) by omega]
    exact hw _ (by omega)
  have cc : ∀ G K, CP (kap id cn) (.sl id 0 len) G K ↔ K (.sc (.int .i64 ((cn - 0 : Nat) : Int))) G := fun G K => CP_sl (kap_self id cn)
  have q3 : ∀ L, sliceA (hx (H.set id (.row false sz rsF)) L) sz (.sl id 0 len) (some (j : Int)) none none = some (.sl id j (len - j)) := fun L => by rw [sl_lo (gq _ L) (by omega) (by omega), if_neg (by omega)]
  have q4 : ∀ L, rowsOf (hx (H.set id (.row false sz rsF)) L) (.sl id j (len - j)) = some D := fun L => by
    rw [rowsOf_sl, gq]
    simp only
    rw [if_pos (by omega), hD]
  by_cases c3 : cn < T
  · have d3 : decide (((cn - 0 : Nat) : Int) < (T : Int)) = true := by simp; omega
    have g2 : ∀ R B L, (hx (H.set id R) (B :: L)).get H.next = some B := fun R B L => by
      have := hx_get0 (H.set id R) (B :: L)
      rwa [Heap.next_set] at this
    have st2 : ∀ R B b', (hx (H.set id R) [B]).set H.next b' = hx (H.set id R) [b'] := fun R B b' => by
      have := hx_set0 (H.set id R) [B] b'
      rwa [Heap.next_set] at this
    have pt2 : ∀ R B, (hx (H.set id R) []).put H.next B = hx (H.set id R) [B] := fun R B => by
      have := hx_put0 (H.set id R) [] B
      rw [Heap.next_set] at this
      rw [this]
      rfl
    simp only [vx, ↓vp, vq0, vq1, vq2, vq3, vr0, vr1, vr2, vr3, vr4, vr5, vr6, vr7, vr8, vr9, vr10, vr11, vr12, vr13, vr14, vr15, vr16, vr17, vr18, vr19, vr20, vr21, vr22, vr23, vr24, vr25, vr26, vr27, vr28, vr29, vr30, vr31, vr32, vr33, vr34, opS, fpS, extO, okP, pack, nAl, allocA, shId, leaves, fillA, fillR, splice, Nat.reduceLT, Nat.reduceEqDiff, Nat.reduceLeDiff, Nat.reduceAdd, Nat.reduceSub, Nat.reduceMul, Int.reduceBEq, Int.reduceBNe, Int.reduceLT, Int.reduceLE, Int.reduceEq, reduceIte, reduceCtorEq, opI0, opI1, q0, q1, q3, d1, d2, hlv, cc, w1, w2, w3, d3]
    refine AZ_new (kap_self _ _) (gq _ _) (by omega) (Nat.le_trans (Nat.mul_le_mul_right _ (by omega)) hb) hz (by omega) ?_
    rw [pt2, List.drop_zero]
    have e3 : i + (T - i) = T := by omega
    rw [e3]
    have s3 : ∀ R B L (k n : Nat), n ≤ B.length → k ≤ n → sliceA (hx (H.set id R) (.row false sz B :: L)) sz (.sl H.next 0 n) (some (k : Int)) none none = some (if 0 < k ∧ k = n then .lst [] else .sl H.next k (n - k)) := fun R B L k n h h2 => sl_lo (g2 _ _ L) h h2
    have cpN : ∀ R B off n X, off + n ≤ B.length → X.length ≤ n → allSz sz X = true → copyA (hx (H.set id R) [.row false sz B]) sz (.sl H.next off n) X = some (X.length, hx (H.set id R) [.row false sz (spl B off X)]) := fun R B off n X h1 h2 h3 => by
      rw [copy_sl (g2 _ _ _) h1 h3, Nat.min_eq_left h2, List.take_length, st2]
    have lN : (rsF.take i ++ List.replicate (T - i) z).length = T := by rw [List.length_append, lAi, List.length_replicate]; omega
    have lN2 : (spl (rsF.take i ++ List.replicate (T - i) z) i xs).length = T := by rw [spl_len (by omega), lN]
    generalize hN : rsF.take i ++ List.replicate (T - i) z = N0 at lN lN2
    have q5 : ∀ L, sliceA (hx (H.set id (.row false sz rsF)) (.row false sz N0 :: L)) sz (.sl H.next 0 T) (some (i : Int)) none none = some (.sl H.next i (T - i)) := fun L => by rw [s3 _ _ _ _ _ (by omega) (by omega), if_neg (by omega)]
    have q6 : ∀ L, sliceA (hx (H.set id (.row false sz rsF)) (.row false sz (spl N0 i xs) :: L)) sz (.sl H.next 0 T) (some ((i + xs.length : Nat) : Int)) none none = some (.sl H.next (i + xs.length) (T - (i + xs.length))) := fun L => by rw [s3 _ _ _ _ _ (by omega) (by omega), if_neg (by omega)]
    have p1 := cpN (.row false sz rsF) N0 i (T - i) xs (by omega) (by omega) hxa
    have p2 := cpN (.row false sz rsF) (spl N0 i xs) (i + xs.length) (T - (i + xs.length)) D (by omega) (by omega) aD
    simp only [vx, ↓vp, vq0, vq1, vq2, vq3, vr0, vr1, vr2, vr3, vr4, vr5, vr6, vr7, vr8, vr9, vr10, vr11, vr12, vr13, vr14, vr15, vr16, vr17, vr18, vr19, vr20, vr21, vr22, vr23, vr24, vr25, vr26, vr27, vr28, vr29, vr30, vr31, vr32, vr33, vr34, opS, fpS, extO, okP, pack, nAl, allocA, shId, leaves, fillA, fillR, splice, Nat.reduceLT, Nat.reduceEqDiff, Nat.reduceLeDiff, Nat.reduceAdd, Nat.reduceSub, Nat.reduceMul, Int.reduceBEq, Int.reduceBNe, Int.reduceLT, Int.reduceLE, Int.reduceEq, reduceIte, reduceCtorEq, opI0, opI1, q3, q4, q5, q6, p1, p2, hrw, hlv, w1]
    rw [res1 (by decide)]
    simp only [↓vp, vq0, vq1, vq2, vq3, vr0, vr1, vr2, vr3, vr4, vr5, vr6, vr7, vr8, vr9, vr10, vr11, vr12, vr13, vr14, vr15, vr16, vr17, vr18, vr19, vr20, vr21, vr22, vr23, vr24, vr25, vr26, vr27, vr28, vr29, vr30, vr31, vr32, vr33, vr34, opS, fpS, extO, okP, pack, nAl, allocA, shId, leaves, fillA, fillR, splice, Nat.reduceLT, Nat.reduceEqDiff, Nat.reduceLeDiff, Nat.reduceAdd, Nat.reduceSub, Nat.reduceMul, Int.reduceBEq, Int.reduceBNe, Int.reduceLT, Int.reduceLE, Int.reduceEq, reduceIte, reduceCtorEq]
    refine fin_new lR.symm ?_
    rw [← hN, spl_new lAi (by rw [List.length_replicate]; omega), hAi]
  have d3 : decide (((cn - 0 : Nat) : Int) < (T : Int)) = false := by simp; omega
  have q5 : ∀ L, sliceA (hx (H.set id (.row false sz rsF)) L) sz (.sl id 0 len) none (some (T : Int)) none = some (.sl id 0 T) := fun L => sl_hi (gq _ L) (by omega) (by omega)
  by_cases c4 : i + xs.length ≤ j
  · have d4 : decide (((i + xs.length : Nat) : Int) ≤ (j : Int)) = true := by simp; omega
    have lS : (spl rsF i xs).length = cn := by rw [spl_len (by omega), hcn]
    have lS2 : (spl (spl rsF i xs) (i + xs.length) D).length = cn := by rw [spl_len (by omega), lS]
    have q6 : ∀ L, sliceA (hx (H.set id (.row false sz rsF)) L) sz (.sl id 0 T) (some (i : Int)) none none = some (.sl id i (T - i)) := fun L => by rw [sl_lo (gq _ L) (by omega) (by omega), if_neg (by omega)]
    have p1 : ∀ L, copyA (hx (H.set id (.row false sz rsF)) L) sz (.sl id i (T - i)) xs = some (xs.length, hx (H.set id (.row false sz (spl rsF i xs))) L) := fun L => by
      rw [copy_sl (gq _ _) (by omega) hxa, sq, Nat.min_eq_left (by omega), List.take_length]
    have q7 : ∀ L, sliceA (hx (H.set id (.row false sz (spl rsF i xs))) L) sz (.sl id 0 T) (some ((i + xs.length : Nat) : Int)) none none = some (.sl id (i + xs.length) (T - (i + xs.length))) := fun L => by rw [sl_lo (gq _ L) (by omega) (by omega), if_neg (by omega)]
    have q8 : ∀ L, sliceA (hx (H.set id (.row false sz (spl rsF i xs))) L) sz (.sl id 0 len) (some (j : Int)) none none = some (.sl id j (len - j)) := fun L => by rw [sl_lo (gq _ L) (by omega) (by omega), if_neg (by omega)]
    have hSj : (spl rsF i xs).drop j = rsF.drop j := by
      have e1 : rsF = rsF.take i ++ rsF.drop i := (List.take_append_drop _ _).symm
      conv => lhs; rw [e1]
      rw [spl_app lAi, List.drop_append, List.drop_eq_nil_of_le (by simp; omega), List.nil_append, List.drop_drop, List.drop_drop]
      congr 1
      simp [lAi]
      omega
    have q9 : ∀ L, rowsOf (hx (H.set id (.row false sz (spl rsF i xs))) L) (.sl id j (len - j)) = some D := fun L => by
      rw [rowsOf_sl, gq]
      simp only
      rw [if_pos (by omega), hSj, hD]
    have p2 : ∀ L, copyA (hx (H.set id (.row false sz (spl rsF i xs))) L) sz (.sl id (i + xs.length) (T - (i + xs.length))) D = some (D.length, hx (H.set id (.row false sz (spl (spl rsF i xs) (i + xs.length) D))) L) := fun L => by
      rw [copy_sl (gq _ _) (by omega) aD, sq, Nat.min_eq_left (by omega), List.take_length]
    obtain ⟨cv, qa, pa⟩ : ∃ cv, (∀ L, sliceA (hx (H.set id (.row false sz (spl (spl rsF i xs) (i + xs.length) D))) L) sz (.sl id 0 len) (some (T : Int)) none none = some cv) ∧ ∃ n, T + n ≤ cn ∧ ∀ L, clrA (hx (H.set id (.row false sz (spl (spl rsF i xs) (i + xs.length) D))) L) sz z cv = some (hx (H.set id (.row false sz (spl (spl (spl rsF i xs) (i + xs.length) D) T (List.replicate n z)))) L) := by
      by_cases e : 0 < T ∧ T = len
      · refine ⟨.lst [], fun L => by rw [sl_lo (gq _ L) (by omega) (by omega), if_pos e], 0, by omega, fun L => ?_⟩
        have h0 : ∀ l : List (List AV), spl l T (List.replicate 0 z) = l := fun l => splice_nil l T
        rw [h0]
        rfl
      · refine ⟨.sl id T (len - T), fun L => by rw [sl_lo (gq _ L) (by omega) (by omega), if_neg e], len - T, by omega, fun L => ?_⟩
        rw [clr_sl (gq _ _) (by omega), sq]
    obtain ⟨nn, hnn, pa⟩ := pa
    simp only [vx, opS_clr, ↓vp, vq0, vq1, vq2, vq3, vr0, vr1, vr2, vr3, vr4, vr5, vr6, vr7, vr8, vr9, vr10, vr11, vr12, vr13, vr14, vr15, vr16, vr17, vr18, vr19, vr20, vr21, vr22, vr23, vr24, vr25, vr26, vr27, vr28, vr29, vr30, vr31, vr32, vr33, vr34, opS, fpS, extO, okP, pack, nAl, allocA, shId, leaves, fillA, fillR, splice, Nat.reduceLT, Nat.reduceEqDiff, Nat.reduceLeDiff, Nat.reduceAdd, Nat.reduceSub, Nat.reduceMul, Int.reduceBEq, Int.reduceBNe, Int.reduceLT, Int.reduceLE, Int.reduceEq, reduceIte, reduceCtorEq, opI0, opI1, q0, q1, q3, q4, q5, q6, q7, q8, q9, p1, p2, qa, pa, hrw, hlv, d1, d2, cc, w1, w2, d3, d4]
    rw [res1 (by decide)]
    simp only [↓vp, vq0, vq1, vq2, vq3, vr0, vr1, vr2, vr3, vr4, vr5, vr6, vr7, vr8, vr9, vr10, vr11, vr12, vr13, vr14, vr15, vr16, vr17, vr18, vr19, vr20, vr21, vr22, vr23, vr24, vr25, vr26, vr27, vr28, vr29, vr30, vr31, vr32, vr33, vr34, opS, fpS, extO, okP, pack, nAl, allocA, shId, leaves, fillA, fillR, splice, Nat.reduceLT, Nat.reduceEqDiff, Nat.reduceLeDiff, Nat.reduceAdd, Nat.reduceSub, Nat.reduceMul, Int.reduceBEq, Int.reduceBNe, Int.reduceLT, Int.reduceLE, Int.reduceEq, reduceIte, reduceCtorEq]
    refine fin_in (g := 0) lR.symm (by rw [spl_len (by simp; omega)]; omega) ?_
    rw [List.drop_zero, spl_pre (by simp; omega)]
    have := spl_in3 (R := rsF) (xs := xs) (D := D) (i := i) (by omega)
    rw [lD, hT] at this
    rw [this, hAi]
  · have d4 : decide (((i + xs.length : Nat) : Int) ≤ (j : Int)) = false := by simp; omega
    have lS : (spl rsF (i + xs.length) D).length = cn := by rw [spl_len (by omega), hcn]
    have q6 : ∀ L, sliceA (hx (H.set id (.row false sz rsF)) L) sz (.sl id 0 T) (some ((i + xs.length : Nat) : Int)) none none = some (.sl id (i + xs.length) (T - (i + xs.length))) := fun L => by rw [sl_lo (gq _ L) (by omega) (by omega), if_neg (by omega)]
    have p1 : ∀ L, copyA (hx (H.set id (.row false sz rsF)) L) sz (.sl id (i + xs.length) (T - (i + xs.length))) D = some (D.length, hx (H.set id (.row false sz (spl rsF (i + xs.length) D))) L) := fun L => by
      rw [copy_sl (gq _ _) (by omega) aD, sq, Nat.min_eq_left (by omega), List.take_length]
    have q7 : ∀ L, sliceA (hx (H.set id (.row false sz (spl rsF (i + xs.length) D))) L) sz (.sl id 0 T) (some (i : Int)) none none = some (.sl id i (T - i)) := fun L => by rw [sl_lo (gq _ L) (by omega) (by omega), if_neg (by omega)]
    have p2 : ∀ L, copyA (hx (H.set id (.row false sz (spl rsF (i + xs.length) D))) L) sz (.sl id i (T - i)) xs = some (xs.length, hx (H.set id (.row false sz (spl (spl rsF (i + xs.length) D) i xs))) L) := fun L => by
      rw [copy_sl (gq _ _) (by omega) hxa, sq, Nat.min_eq_left (by omega), List.take_length]
    have ko : ∀ Q, KW ft (.fn (.func ov) [] []) [.sl id (i + xs.length) (T - (i + xs.length)), v] (hx (H.set id (.row false sz rsF)) []) Q ↔ Q (.sc (.bool false)) (hx (H.set id (.row false sz rsF)) []) := fun Q => k_ov hov (hv.ovr _ _ _ _ (by omega))
    simp only [vx, ↓vp, vq0, vq1, vq2, vq3, vr0, vr1, vr2, vr3, vr4, vr5, vr6, vr7, vr8, vr9, vr10, vr11, vr12, vr13, vr14, vr15, vr16, vr17, vr18, vr19, vr20, vr21, vr22, vr23, vr24, vr25, vr26, vr27, vr28, vr29, vr30, vr31, vr32, vr33, vr34, opS, fpS, extO, okP, pack, nAl, allocA, shId, leaves, fillA, fillR, splice, Nat.reduceLT, Nat.reduceEqDiff, Nat.reduceLeDiff, Nat.reduceAdd, Nat.reduceSub, Nat.reduceMul, Int.reduceBEq, Int.reduceBNe, Int.reduceLT, Int.reduceLE, Int.reduceEq, reduceIte, reduceCtorEq, opI0, opI1, q0, q1, q3, q4, q5, q6, q7, p1, p2, ko, cdo, hrw, hlv, d1, d2, cc, w1, w2, d3, d4]
    rw [res1 (by decide)]
    simp only [↓vp, vq0, vq1, vq2, vq3, vr0, vr1, vr2, vr3, vr4, vr5, vr6, vr7, vr8, vr9, vr10, vr11, vr12, vr13, vr14, vr15, vr16, vr17, vr18, vr19, vr20, vr21, vr22, vr23, vr24, vr25, vr26, vr27, vr28, vr29, vr30, vr31, vr32, vr33, vr34, opS, fpS, extO, okP, pack, nAl, allocA, shId, leaves, fillA, fillR, splice, Nat.reduceLT, Nat.reduceEqDiff, Nat.reduceLeDiff, Nat.reduceAdd, Nat.reduceSub, Nat.reduceMul, Int.reduceBEq, Int.reduceBNe, Int.reduceLT, Int.reduceLE, Int.reduceEq, reduceIte, reduceCtorEq]
    refine fin_in (g := 0) lR.symm (by rw [spl_len (by omega)]; omega) ?_
    have := spl_in (R := rsF) (xs := xs) (D := D) (i := i) (n := i + D.length) (by omega) (by omega) (by omega)
    rw [show i + D.length + xs.length = T by omega] at this
    rw [List.drop_zero, this, hAi]
end
end Go.VI

set_option linter.unusedVariables false
set_option linter.unusedSimpArgs false
set_option maxRecDepth 100000
namespace Go.VI
attribute [local congr] AW_congr OW_congr DW_congr NW_congr VW_congr GW_congr PW_congr KW_congr ite_congr' GV_congr CV_congr dx_congr dOW_congr dop_congr CP_congr AQ_congr AZ_congr callD_congr NQ_congr
theorem sl_nil0 (H : Heap) (sz : Nat) (a c : Option Int) (ha : a = none ∨ a = some 0) (hc : c = none ∨ c = some 0) : sliceA H sz (.sc (.slice none 0 0)) a c none = some (.sc (.slice none 0 0)) := by
  rcases ha with rfl | rfl <;> rcases hc with rfl | rfl <;> rfl
theorem res_tmp {H : Heap} {n t : Nat} {f : Nat → AV} (ht : t < n) : resultsA H (mkE n f) [.tmp t] = some (f t) := by
  simp only [resultsA, List.mapM_cons, List.mapM_nil, resOf]
  rw [mkE_get, if_pos ht]
  rfl
theorem lenV_v {H G : Heap} {id : Nat} {v : AV} {xs : List (List AV)} (h : vRows H id v = some xs) : lenV G 0 v = some (.sc (.int .i64 (xs.length : Int)), G) := by
  unfold vRows at h
  split at h
  · cases h; rfl
  · cases h; rfl
  · cases h; rfl
  · rename_i j off l
    split at h
    · rw [rowsOf_sl] at h
      split at h
      · split at h
        · rename_i hle
          cases h
          rw [lenV_sl]
          simp
          omega
        · cases h
      · cases h
    · cases h
  · cases h
section
variable {ft : FT} {sz b ins ov rot idx : Nat} {z : List AV}
theorem ins_nil {H : Heap} {v : AV} {xs : List (List AV)} (hx1 : vRows H H.next v = some xs) (ha : allSz sz xs = true) (hb : xs.length * b ≤ 140737488355328) {r : AV} {H' : Heap}
    (h : (xs.length = 0 ∧ r = .sc (.slice none 0 0) ∧ H' = H) ∨ (xs.length ≠ 0 ∧ r = .sl H.next 0 xs.length ∧ H' = H.put H.next (.row false sz xs))) :
    dCall ft (fun _ => none) 95 [.tmp 6] (insC sz b z ov rot) [.sc (.slice none 0 0), .sc (.int .i64 0), v] H fun r2 H2 => r2 = r ∧ H2 = H' := by
  have hlv := fun G => lenV_v (G := G) hx1
  have hrw : rowsOf (hx H []) v = some xs := by rw [hx_nil]; exact vRows_rows hx1
  have s0 := fun G => sl_nil0 G sz (some 0) none (.inr rfl) (.inl rfl)
  unfold dCall
  rw [enterE_mkE _ _ (by simp), ← hx_nil H]
  unfold insC
  rcases h with ⟨h0, rfl, rfl⟩ | ⟨h0, rfl, rfl⟩
  · have d1 : ((xs.length : Int) == 0) = true := by simp [h0]
    simp only [vx, ↓vp, vq0, vq1, vq2, vq3, vr0, vr1, vr2, vr3, vr4, vr5, vr6, vr7, vr8, vr9, vr10, vr11, vr12, vr13, vr14, vr15, vr16, vr17, vr18, vr19, vr20, vr21, vr22, vr23, vr24, vr25, vr26, vr27, vr28, vr29, vr30, vr31, vr32, vr33, vr34, opS, fpS, extO, okP, pack, nAl, allocA, shId, leaves, fillA, fillR, splice, Nat.reduceLT, Nat.reduceEqDiff, Nat.reduceLeDiff, Nat.reduceAdd, Nat.reduceSub, Nat.reduceMul, Int.reduceBEq, Int.reduceBNe, Int.reduceLT, Int.reduceLE, Int.reduceEq, reduceIte, reduceCtorEq, opI0, opI1, s0, hlv, d1]
    refine ⟨_, res_tmp (by decide), ?_⟩
    simp only [↓vp, vq0, vq1, vq2, vq3, vr0, vr1, vr2, vr3, vr4, vr5, vr6, vr7, vr8, vr9, vr10, vr11, vr12, vr13, vr14, vr15, vr16, vr17, vr18, vr19, vr20, vr21, vr22, vr23, vr24, vr25, vr26, vr27, vr28, vr29, vr30, vr31, vr32, vr33, vr34, opS, fpS, extO, okP, pack, nAl, allocA, shId, leaves, fillA, fillR, splice, Nat.reduceLT, Nat.reduceEqDiff, Nat.reduceLeDiff, Nat.reduceAdd, Nat.reduceSub, Nat.reduceMul, Int.reduceBEq, Int.reduceBNe, Int.reduceLT, Int.reduceLE, Int.reduceEq, reduceIte, reduceCtorEq]
    exact hx_nil _
  · have d1 : ((xs.length : Int) == 0) = false := beq_eq_false_iff_ne.2 (by omega)
    have h1 : (xs.length = 0) = False := eq_false h0
    have h2 : (xs.length * b ≤ 140737488355328) = True := eq_true hb
    simp only [vx, ↓vp, vq0, vq1, vq2, vq3, vr0, vr1, vr2, vr3, vr4, vr5, vr6, vr7, vr8, vr9, vr10, vr11, vr12, vr13, vr14, vr15, vr16, vr17, vr18, vr19, vr20, vr21, vr22, vr23, vr24, vr25, vr26, vr27, vr28, vr29, vr30, vr31, vr32, vr33, vr34, opS, fpS, extO, okP, pack, nAl, allocA, shId, leaves, fillA, fillR, splice, Nat.reduceLT, Nat.reduceEqDiff, Nat.reduceLeDiff, Nat.reduceAdd, Nat.reduceSub, Nat.reduceMul, Int.reduceBEq, Int.reduceBNe, Int.reduceLT, Int.reduceLE, Int.reduceEq, reduceIte, reduceCtorEq, opI0, opI1, s0, hlv, d1, hrw, AQ_nil, h1, h2, ha]
    refine ⟨_, res_tmp (by decide), ?_⟩
    simp only [↓vp, vq0, vq1, vq2, vq3, vr0, vr1, vr2, vr3, vr4, vr5, vr6, vr7, vr8, vr9, vr10, vr11, vr12, vr13, vr14, vr15, vr16, vr17, vr18, vr19, vr20, vr21, vr22, vr23, vr24, vr25, vr26, vr27, vr28, vr29, vr30, vr31, vr32, vr33, vr34, opS, fpS, extO, okP, pack, nAl, allocA, shId, leaves, fillA, fillR, splice, Nat.reduceLT, Nat.reduceEqDiff, Nat.reduceLeDiff, Nat.reduceAdd, Nat.reduceSub, Nat.reduceMul, Int.reduceBEq, Int.reduceBNe, Int.reduceLT, Int.reduceLE, Int.reduceEq, reduceIte, reduceCtorEq]
    have hp := hx_put0 H [] (.row false sz xs)
    rw [hx_nil] at hp
    rw [hp]
    rfl
theorem insP_sl (hov : ft ov = some (.prim ovP)) (hz : z.length = sz) (b0 : 0 < b) : SlP ft 95 [.tmp 6] (insC sz b z ov rot) (insP sz b) := by
  intro args H r H' h
  unfold insP at h
  split at h
  rotate_left
  · cases h
  rename_i s i v
  rcases cutP_some h with ⟨id, len, rows, xs, a, c, rfl, rfl, hc, hg, hvr, h1, hlen, hac, hcl, hxa, hb, rfl, rfl⟩ | ⟨xs, rfl, rfl, _, _, hvr, hxa, hb, h⟩
  · have hac' : a = c := by omega
    subst hac'
    refine .inl ⟨id, sz, 0, rows, _, ⟨0, len, by simp⟩, hg, rfl, rfl, fun rsF cn f1 f2 f3 => ?_⟩
    exact ins_walk hov hz (Heap.get_lt hg) f1 hlen f2 f3 hcl (vOk_of (Heap.get_lt hg) h1 hvr hxa) hb b0
  · exact .inr (ins_nil hvr hxa hb h)
theorem repP_sl (hins : ft ins = some (.prim (insP sz b))) (hov : ft ov = some (.prim ovP)) (hz : z.length = sz) (b0 : 0 < b) : SlP ft 224 [.tmp 8] (repC sz b z ins ov rot idx) (repP sz b) := by
  have cdi : ∀ F C, calleeD ft (.fn (.func ins) F C) = none := fun _ _ => calleeD_det (isDp_prim hins)
  intro args H r H' h
  unfold repP at h
  split at h
  rotate_left
  · cases h
  rename_i s i j v
  have h0 := h
  rcases cutP_some h with ⟨id, len, rows, xs, a, c, rfl, rfl, rfl, hg, hvr, h1, hlen, hac, hcl, hxa, hb, rfl, rfl⟩ | ⟨xs, rfl, rfl, rfl, _, hvr, hxa, hb, h⟩
  · refine .inl ⟨id, sz, 0, rows, _, ⟨0, len, by simp⟩, hg, rfl, rfl, fun rsF cn f1 f2 f3 => ?_⟩
    exact rep_walk hins hov hz (Heap.get_lt hg) f1 hlen f2 f3 hac hcl h1 hvr hxa hb b0
  · have s0 := fun G => sl_nil0 G sz (some 0) (some 0) (.inr rfl) (.inr rfl)
    have hle : H.next ≤ H'.next := by
      rcases h with ⟨_, _, rfl⟩ | ⟨_, _, rfl⟩
      · exact Nat.le_refl _
      · exact Heap.next_put_le _ _ _
    have hk : insP sz b [.sc (.slice none 0 0), .sc (.int .i64 0), v] (hx H []) = some (r, H') := by rw [hx_nil]; exact h0
    have kk := fun Q => k_prim hins (Q := Q) hk (by rw [hx_nil]; exact hle)
    right
    unfold dCall
    rw [enterE_mkE _ _ (by simp), ← hx_nil H]
    unfold repC
    simp only [vx, ↓vp, vq0, vq1, vq2, vq3, vr0, vr1, vr2, vr3, vr4, vr5, vr6, vr7, vr8, vr9, vr10, vr11, vr12, vr13, vr14, vr15, vr16, vr17, vr18, vr19, vr20, vr21, vr22, vr23, vr24, vr25, vr26, vr27, vr28, vr29, vr30, vr31, vr32, vr33, vr34, opS, fpS, extO, okP, pack, nAl, allocA, shId, leaves, fillA, fillR, splice, Nat.reduceLT, Nat.reduceEqDiff, Nat.reduceLeDiff, Nat.reduceAdd, Nat.reduceSub, Nat.reduceMul, Int.reduceBEq, Int.reduceBNe, Int.reduceLT, Int.reduceLE, Int.reduceEq, reduceIte, reduceCtorEq, opI0, opI1, s0, kk, cdi]
    rw [← hx_nil H']
    simp only [vx, ↓vp, vq0, vq1, vq2, vq3, vr0, vr1, vr2, vr3, vr4, vr5, vr6, vr7, vr8, vr9, vr10, vr11, vr12, vr13, vr14, vr15, vr16, vr17, vr18, vr19, vr20, vr21, vr22, vr23, vr24, vr25, vr26, vr27, vr28, vr29, vr30, vr31, vr32, vr33, vr34, opS, fpS, extO, okP, pack, nAl, allocA, shId, leaves, fillA, fillR, splice, Nat.reduceLT, Nat.reduceEqDiff, Nat.reduceLeDiff, Nat.reduceAdd, Nat.reduceSub, Nat.reduceMul, Int.reduceBEq, Int.reduceBNe, Int.reduceLT, Int.reduceLE, Int.reduceEq, reduceIte, reduceCtorEq]
    refine ⟨_, res_tmp (by decide), ?_⟩
    simp only [↓vp, vq0, vq1, vq2, vq3, vr0, vr1, vr2, vr3, vr4, vr5, vr6, vr7, vr8, vr9, vr10, vr11, vr12, vr13, vr14, vr15, vr16, vr17, vr18, vr19, vr20, vr21, vr22, vr23, vr24, vr25, vr26, vr27, vr28, vr29, vr30, vr31, vr32, vr33, vr34, opS, fpS, extO, okP, pack, nAl, allocA, shId, leaves, fillA, fillR, splice, Nat.reduceLT, Nat.reduceEqDiff, Nat.reduceLeDiff, Nat.reduceAdd, Nat.reduceSub, Nat.reduceMul, Int.reduceBEq, Int.reduceBNe, Int.reduceLT, Int.reduceLE, Int.reduceEq, reduceIte, reduceCtorEq]
end
end Go.VI

set_option linter.unusedVariables false
set_option linter.unusedSimpArgs false
namespace Go.VI
section
variable {P : Program}
def FrzTo (r : AV) (r2 : AV) (H2 : Heap) : Prop := ∃ H3, frz FZ H2 r2 = some (r, H3)
def SlD (ft : FT) (n : Nat) (rs : List ARes) (body : ACode) (p : List AV → Option AV) : Prop := ∀ args r, p args = some r → dCall ft (fun _ => none) n rs body args Heap.empty (FrzTo r)
theorem slD_ok (hP : P.follows .mixedOrders = true) {ft : FT} (hft : FTOk P ft) {k : FuncId} {n : Nat} {rs : List ARes} {body : ACode} (hg : GoFn P k n rs body) {p : List AV → Option AV} (hp : SlD ft n rs body p) : PPrimOk P k p := by
  intro args r h m F H w vs hI hl hv
  have hI0 : Inv P (fun _ => none) F Heap.empty w := ⟨hI.fz, fun _ _ h => (by cases h), fun _ _ _ h _ => (by cases h), fun _ _ _ _ h _ _ _ _ => (by cases h)⟩
  obtain ⟨h1, h2⟩ := dx_calls hP hft hg hI0 (κ := fun _ => none) (fun id cn h => by cases h) (args := args) (vs := vs) ⟨hl, fun i c hc => .fz (hv i c hc)⟩ (hp args r h)
  refine .inl ⟨h1, h2.mono fun en w2 ⟨r1, Hc, ⟨Hc2, hz2⟩, u, m', F', he, hr, hI2, hE2, hG⟩ => ?_⟩
  obtain ⟨F2, o2, hvf⟩ := (frz_sound FZ).1 Hc Hc2 F' r1 r u hz2 hI2 hr
  have hold : ∀ b, b < w.heap.size → w2.heap[b]? = w.heap[b]? := fun b hb => hE2.blk b hb (fun _ _ h => by cases h)
  have hmn : ∀ id mb, m' id = some mb → w.heap.size ≤ mb.cb := fun id mb h => by
    rcases hE2.mn id mb h with h | h | ⟨_, _, h, _⟩
    · cases h
    · exact h
    · cases h
  have hF2 : ∀ b o v, F2 b o = some v → F b o = some v ∨ w.heap.size ≤ b := fun b o v hv => by
    rcases o2.fr.new b o v hv with h | ⟨id, mb, h, rfl⟩
    · rcases hE2.fn b o v h with h | h | ⟨_, _, h, _⟩
      · exact .inl h
      · exact .inr h
      · cases h
    · exact .inr (hmn id mb h)
  have hF12 : FLe F F2 := hE2.ff.trans o2.fr.le
  have hIm : Inv P m F2 H w2 := by
    refine hI.next (MLe.refl m) hF12 o2.inv.fz (fun id mb h => ?_) (fun id mb B h hB => ?_) hI.inj
    · have := hI.lt id mb h
      have := hE2.sz
      omega
    · have hlt := (hI.lt id mb h).2
      refine .inl ⟨h, hB, hold _ hlt, fun o v hv => ?_⟩
      rcases hF2 _ o v hv with h | h
      · exact h
      · omega
  have hEm : Ext m F w m F2 w2 := ⟨MLe.refl m, hF12, hE2.sz, hE2.tape, hE2.os, hE2.out, fun b hb _ => hold b hb, fun _ _ h => .inl h, fun b o v hv => by
    rcases hF2 b o v hv with h | h
    · exact .inl h
    · exact .inr (.inl h)⟩
  exact ⟨u, m, F2, he, .fz hvf, hIm, hEm, ⟨fun _ _ h => .inl h, Nat.le_refl _⟩⟩
end
/-- What Clone may tell. -/
def cloD (sz b : Nat) (args : List AV) (H : Heap) (K : AV → Heap → Prop) : Prop :=
  match args with
  | [.lst []] => K (.sc (.slice none 0 0)) H ∧ K .emp (H.put H.next .dead)
  | [v] => ∃ xs, vRows H H.next v = some xs ∧ xs ≠ [] ∧ xs.length * b ≤ 140737488355328 ∧ allSz sz xs = true ∧ K (.sl (H.next + 1) 0 xs.length) (hx H [.dead, .row false sz xs])
  | _ => False
end Go.VI

set_option linter.unusedVariables false
set_option linter.unusedSimpArgs false
set_option maxRecDepth 100000
namespace Go.VI
attribute [local congr] AW_congr OW_congr DW_congr NW_congr VW_congr GW_congr PW_congr KW_congr ite_congr' GV_congr CV_congr dx_congr dOW_congr dop_congr CP_congr AQ_congr AZ_congr callD_congr NQ_congr
def cloC (sz b : Nat) (z : List AV) : ACode := (.seq (.region [⟨(some 2), (.mov (.const (.slice none 0 0))), none⟩] false []) (.seq (.seq (.region [⟨(some 3), (.mov (.tmp 0)), none⟩, ⟨(some 4), (.isnil false 0 (.tmp 3)), none⟩] false []) (.cond (.tmp 4) (.seq (.region [⟨(some 2), (.mov (.const (.slice none 0 0))), none⟩] false []) .ret) .skip)) (.seq (.region [⟨(some 5), (.bslice sz z 0 []), none⟩, ⟨(some 6), (.mov (.tmp 0)), none⟩, ⟨(some 7), (.app sz b (.tmp 5) (.tmp 6)), none⟩, ⟨(some 2), (.mov (.tmp 7)), none⟩] false []) .ret)))
theorem AQ_det {nid sz b : Nat} {H : Heap} {s : AV} {o : Option (List (List AV))} {K : AV → Heap → Prop} : AQ (fun _ => none) nid H sz b s o K ↔ PW (o.bind fun xs => appA nid H sz b s xs) K := by
  unfold AQ
  rw [if_neg]
  unfold kOf
  split <;> simp
theorem NQ_det {H : Heap} {neg : Bool} {v : AV} {K : AV → Heap → Prop} {b : Bool} (h : isE v = false) (h2 : isnilA 0 v = some b) : NQ H neg 0 v K ↔ K (.sc (.bool (b != neg))) H := by
  unfold NQ
  rw [h, h2]
  simp only [Bool.and_false, Bool.false_eq_true, if_false, Option.map_some]
  exact PW_some
theorem rows_hx {H : Heap} {v : AV} {xs : List (List AV)} (L : List Blk) (h : rowsOf H v = some xs) : rowsOf (hx H L) v = some xs := by
  unfold rowsOf at h ⊢
  split at h
  · exact h
  · exact h
  · split at h
    · rename_i hg
      simp only [hx_get_old H L _ (Heap.get_lt hg), hg]
      exact h
    · cases h
  · cases h
section
variable {P : Program} {ft : FT} {sz b : Nat} {z : List AV}
theorem clo_dx {args : List AV} {H : Heap} {K : AV → Heap → Prop} (h : cloD sz b args H K) : dCall ft (fun _ => none) 8 [.tmp 2] (cloC sz b z) args H K := by
  unfold cloD at h
  split at h
  · obtain ⟨h1, h2⟩ := h
    unfold dCall
    rw [enterE_mkE _ _ (by simp), ← hx_nil H]
    rw [← hx_nil H] at h1
    unfold cloC
    have hx1 : H.put H.next .dead = hx H [.dead] := by
      have := hx_put0 H [] .dead
      rw [hx_nil] at this
      rw [this]
      rfl
    rw [hx1] at h2
    simp only [vx, ↓vp, vq0, vq1, vq2, vq3, vr0, vr1, vr2, vr3, vr4, vr5, vr6, vr7, vr8, vr9, vr10, vr11, vr12, vr13, vr14, vr15, vr16, vr17, vr18, vr19, vr20, vr21, vr22, vr23, vr24, vr25, vr26, vr27, vr28, vr29, vr30, vr31, vr32, vr33, vr34, opS, fpS, extO, okP, pack, nAl, allocA, shId, leaves, fillA, fillR, splice, Nat.reduceLT, Nat.reduceEqDiff, Nat.reduceLeDiff, Nat.reduceAdd, Nat.reduceSub, Nat.reduceMul, Int.reduceBEq, Int.reduceBNe, Int.reduceLT, Int.reduceLE, Int.reduceEq, reduceIte, reduceCtorEq, AQ_det, appA_emp]
    refine ⟨⟨_, res_tmp (by decide), ?_⟩, ⟨_, res_tmp (by decide), ?_⟩⟩
    · simp only [↓vp, vq0, vq1, vq2, vq3, vr0, vr1, vr2, vr3, vr4, vr5, vr6, vr7, vr8, vr9, vr10, vr11, vr12, vr13, vr14, vr15, vr16, vr17, vr18, vr19, vr20, vr21, vr22, vr23, vr24, vr25, vr26, vr27, vr28, vr29, vr30, vr31, vr32, vr33, vr34, opS, fpS, extO, okP, pack, nAl, allocA, shId, leaves, fillA, fillR, splice, Nat.reduceLT, Nat.reduceEqDiff, Nat.reduceLeDiff, Nat.reduceAdd, Nat.reduceSub, Nat.reduceMul, Int.reduceBEq, Int.reduceBNe, Int.reduceLT, Int.reduceLE, Int.reduceEq, reduceIte, reduceCtorEq]
      exact h1
    · simp only [↓vp, vq0, vq1, vq2, vq3, vr0, vr1, vr2, vr3, vr4, vr5, vr6, vr7, vr8, vr9, vr10, vr11, vr12, vr13, vr14, vr15, vr16, vr17, vr18, vr19, vr20, vr21, vr22, vr23, vr24, vr25, vr26, vr27, vr28, vr29, vr30, vr31, vr32, vr33, vr34, opS, fpS, extO, okP, pack, nAl, allocA, shId, leaves, fillA, fillR, splice, Nat.reduceLT, Nat.reduceEqDiff, Nat.reduceLeDiff, Nat.reduceAdd, Nat.reduceSub, Nat.reduceMul, Int.reduceBEq, Int.reduceBNe, Int.reduceLT, Int.reduceLE, Int.reduceEq, reduceIte, reduceCtorEq]
      exact h2
  · rename_i v _
    obtain ⟨xs, hxs, h0, hb, ha, hK⟩ := h
    unfold dCall
    rw [enterE_mkE _ _ (by simp), ← hx_nil H]
    unfold cloC
    have hv : isE v = false ∧ isnilA 0 v = some false := by
      unfold vRows at hxs
      split at hxs
      · cases hxs; exact absurd rfl h0
      · cases hxs; exact absurd rfl h0
      · exact ⟨rfl, rfl⟩
      · exact ⟨rfl, rfl⟩
      · cases hxs
    have nq := fun H' K' => NQ_det (H := H') (neg := false) (K := K') hv.1 hv.2
    have hr : ∀ L, rowsOf (hx H L) v = some xs := fun L => rows_hx L (vRows_rows hxs)
    have hl : ¬ xs.length = 0 := fun e => h0 (List.eq_nil_of_length_eq_zero e)
    have d1 : (xs.length = 0) = False := eq_false hl
    have d2 : (xs.length * b ≤ 140737488355328) = True := eq_true hb
    simp only [vx, ↓vp, vq0, vq1, vq2, vq3, vr0, vr1, vr2, vr3, vr4, vr5, vr6, vr7, vr8, vr9, vr10, vr11, vr12, vr13, vr14, vr15, vr16, vr17, vr18, vr19, vr20, vr21, vr22, vr23, vr24, vr25, vr26, vr27, vr28, vr29, vr30, vr31, vr32, vr33, vr34, opS, fpS, extO, okP, pack, nAl, allocA, shId, leaves, fillA, fillR, splice, Nat.reduceLT, Nat.reduceEqDiff, Nat.reduceLeDiff, Nat.reduceAdd, Nat.reduceSub, Nat.reduceMul, Int.reduceBEq, Int.reduceBNe, Int.reduceLT, Int.reduceLE, Int.reduceEq, reduceIte, reduceCtorEq, AQ_det, appA_emp, nq, hr, ha, d1, d2]
    refine ⟨_, res_tmp (by decide), ?_⟩
    simp only [↓vp, vq0, vq1, vq2, vq3, vr0, vr1, vr2, vr3, vr4, vr5, vr6, vr7, vr8, vr9, vr10, vr11, vr12, vr13, vr14, vr15, vr16, vr17, vr18, vr19, vr20, vr21, vr22, vr23, vr24, vr25, vr26, vr27, vr28, vr29, vr30, vr31, vr32, vr33, vr34, opS, fpS, extO, okP, pack, nAl, allocA, shId, leaves, fillA, fillR, splice, Nat.reduceLT, Nat.reduceEqDiff, Nat.reduceLeDiff, Nat.reduceAdd, Nat.reduceSub, Nat.reduceMul, Int.reduceBEq, Int.reduceBNe, Int.reduceLT, Int.reduceLE, Int.reduceEq, reduceIte, reduceCtorEq]
    exact hK
  · exact h.elim
theorem ft0_ok : FTOk P (fun _ => none) := fun k d h => by cases h
/-- What Clone tells, where it does not matter whether an empty slice is nil. -/
def cloP (sz b : Nat) (args : List AV) (H : Heap) : Option (AV × Heap) :=
  match args with
  | [.sc (.slice none 0 0)] => some (.sc (.slice none 0 0), H)
  | [.lst []] => some (.emp, H.pad 1)
  | [v] => (vRows H H.next v).bind fun xs => if xs ≠ [] ∧ xs.length * b ≤ 140737488355328 ∧ allSz sz xs = true then some (.sl (H.next + 1) 0 xs.length, hx H [.dead, .row false sz xs]) else none
  | _ => none
theorem cloP_ok (hP : P.follows .mixedOrders = true) {k : FuncId} (hg : GoFn P k 8 [.tmp 2] (cloC sz b z)) : PrimOk P k (cloP sz b) := by
  intro args H H' r h m F w vs hI hv
  have go : ∀ K, dCall (fun _ => none) (fun _ => none) 8 [.tmp 2] (cloC sz b z) args H K → (callFunc k vs).run P w = .ok (.enter k vs) w ∧ Calls P k vs w fun en w' => ∃ r H', K r H' ∧ CallPost P m F H w r H' en w' :=
    fun K hK => dx_calls hP ft0_ok hg hI (κ := fun _ => none) (fun id cn h => by cases h) hv hK
  unfold cloP at h
  split at h
  · cases h
    obtain ⟨h1, h2⟩ := go (fun r2 H2 => r2 = .sc (.slice none 0 0) ∧ H2 = H) (by
      unfold dCall
      rw [enterE_mkE _ _ (by simp), ← hx_nil H]
      unfold cloC
      have nq := fun H' K' => NQ_det (H := H') (neg := false) (K := K') (v := .sc (.slice none 0 0)) rfl rfl
      simp only [vx, ↓vp, vq0, vq1, vq2, vq3, vr0, vr1, vr2, vr3, vr4, vr5, vr6, vr7, vr8, vr9, vr10, vr11, vr12, vr13, vr14, vr15, vr16, vr17, vr18, vr19, vr20, vr21, vr22, vr23, vr24, vr25, vr26, vr27, vr28, vr29, vr30, vr31, vr32, vr33, vr34, opS, fpS, extO, okP, pack, nAl, allocA, shId, leaves, fillA, fillR, splice, Nat.reduceLT, Nat.reduceEqDiff, Nat.reduceLeDiff, Nat.reduceAdd, Nat.reduceSub, Nat.reduceMul, Int.reduceBEq, Int.reduceBNe, Int.reduceLT, Int.reduceLE, Int.reduceEq, reduceIte, reduceCtorEq, AQ_det, nq]
      refine ⟨_, res_tmp (by decide), ?_⟩
      simp only [↓vp, vq0, vq1, vq2, vq3, vr0, vr1, vr2, vr3, vr4, vr5, vr6, vr7, vr8, vr9, vr10, vr11, vr12, vr13, vr14, vr15, vr16, vr17, vr18, vr19, vr20, vr21, vr22, vr23, vr24, vr25, vr26, vr27, vr28, vr29, vr30, vr31, vr32, vr33, vr34, opS, fpS, extO, okP, pack, nAl, allocA, shId, leaves, fillA, fillR, splice, Nat.reduceLT, Nat.reduceEqDiff, Nat.reduceLeDiff, Nat.reduceAdd, Nat.reduceSub, Nat.reduceMul, Int.reduceBEq, Int.reduceBNe, Int.reduceLT, Int.reduceLE, Int.reduceEq, reduceIte, reduceCtorEq])
    refine .inl ⟨h1, h2.mono fun en w' ⟨r2, H2, ⟨h3, h4⟩, hc⟩ => ?_⟩
    subst h3 h4
    exact hc
  · cases h
    obtain ⟨h1, h2⟩ := go (fun r2 H2 => (r2 = .sc (.slice none 0 0) ∧ H2 = H) ∨ (r2 = .emp ∧ H2 = H.put H.next .dead)) (clo_dx ⟨.inl ⟨rfl, rfl⟩, .inr ⟨rfl, rfl⟩⟩)
    refine .inl ⟨h1, h2.mono fun en w' ⟨r2, H2, hK, u, m', F', he, q1, q2, q3, q4⟩ => ?_⟩
    rcases hK with ⟨rfl, rfl⟩ | ⟨rfl, rfl⟩
    · obtain ⟨rfl, _⟩ := vr_sc q1
      exact ⟨_, m', F', he, .fz (.emp none), q2.pad 1, q3, ⟨q4.dom, by rw [Heap.next_pad]; omega⟩⟩
    · have e1 : H.put H.next .dead = H.pad 1 := by
        have := hx_put0 H [] .dead
        rw [hx_nil] at this
        rw [this]
        simp [hx, Heap.pad]
      rw [e1] at q2 q4
      exact ⟨_, m', F', he, q1, q2, q3, q4⟩
  · rename_i v _ _
    simp only [Option.bind_eq_some_iff] at h
    obtain ⟨xs, hxs, h⟩ := h
    split at h
    rotate_left
    · cases h
    rename_i hc
    cases h
    obtain ⟨h1, h2⟩ := go (fun r2 H2 => r2 = .sl (H.next + 1) 0 xs.length ∧ H2 = hx H [.dead, .row false sz xs]) (clo_dx (by
      unfold cloD
      split
      · rename_i e; cases e; cases hxs; exact absurd rfl hc.1
      · rename_i e; cases e; exact ⟨xs, hxs, hc.1, hc.2.1, hc.2.2, rfl, rfl⟩
      · rename_i e; exact e _ rfl))
    exact .inl ⟨h1, h2.mono fun en w' ⟨r2, H2, ⟨h3, h4⟩, hc⟩ => by rw [← h3, ← h4]; exact hc⟩
  · cases h
end
end Go.VI

set_option linter.unusedVariables false
set_option linter.unusedSimpArgs false
namespace Go.VI
def Sub (ft ft' : FT) : Prop := ∀ k d, ft k = some d → ft' k = some d
theorem pureV_sub {ft ft' : FT} (hs : Sub ft ft') {f : AV} {args : List AV} {ex : EX} {H : Heap} {r : AV × Heap} (h : callV ft ex f args H = some r) : pureV ft' f args = pureV ft f args := by
  unfold callV at h
  unfold pureV
  split at h
  · rename_i k first caps
    have : isPure ft' k = isPure ft k := by
      unfold isPure
      cases hk : ft k with
      | none => unfold callF at h; rw [hk] at h; cases h
      | some d => rw [hs k d hk]
    simp only [this]
  · rfl
  · cases h
theorem isExt_sub {ft ft' : FT} (hs : Sub ft ft') {f : AV} {args : List AV} {ex : EX} {H : Heap} {r : AV × Heap} (h : callV ft ex f args H = some r) (as' : List AV) : pureV ft' (.tup [f]) as' = pureV ft (.tup [f]) as' := by
  unfold callV at h
  split at h
  · rename_i k first caps
    have : isExt ft' k = isExt ft k := by
      unfold isExt
      cases hk : ft k with
      | none => unfold callF at h; rw [hk] at h; cases h
      | some d => rw [hs k d hk]
    simp only [pureV, this]
  · rfl
  · cases h
theorem isGo_sub {ft ft' : FT} (hs : Sub ft ft') {f : AV} (h : isGo ft f = true) : isGo ft' f = true := by
  unfold isGo at h ⊢
  split at h
  · rename_i k first caps
    cases hk : ft k with
    | none => rw [hk] at h; cases h
    | some d => rw [hs k d hk]; rw [hk] at h; exact h
  · cases h
theorem runs_le {cf cf' : CF} (h : CLe cf cf') {pv pv' : AV → List AV → FP} (hp : ∀ f args H r, cf f args H = some r → pv' f args = pv f args ∧ pv' (.tup [f]) args = pv (.tup [f]) args) : ∀ (os : List AOper) (nid : Nat) (e : Env) (H : Heap) (r : List FQ × Env × Heap), runs cf pv nid os e H = some r → runs cf' pv' nid os e H = some r
  | [], nid, e, H, r, hr => hr
  | o :: os, nid, e, H, r, hr => by
    simp only [runs, Option.bind_eq_some_iff, Option.map_eq_some_iff] at hr ⊢
    obtain ⟨p, hp1, q, hq, hr⟩ := hr
    refine ⟨p, oper_mono h hp1, q, runs_le h hp os _ _ _ _ hq, ?_⟩
    have : fqO pv' nid e o H p.2 = fqO pv nid e o H p.2 := by
      by_cases hw : wantA e o.guard = true
      · obtain ⟨d, op, g⟩ := o
        cases op with
        | call f args =>
          unfold oper at hp1
          split at hp1
          · rw [Option.map_eq_some_iff] at hp1
            obtain ⟨r1, hr1, _⟩ := hp1
            obtain ⟨a1, a2⟩ := hp _ _ _ _ hr1
            simp only [fqO, fpO, fpS, extO, a1, a2]
          · cases hp1
        | _ => rfl
      · rw [fqO_some (show fpO pv' nid e o = some (false, []) by unfold fpO; rw [if_neg hw]), fqO_some (show fpO pv nid e o = some (false, []) by unfold fpO; rw [if_neg hw])]
    rw [this]
    exact hr
theorem drawn_le {cf cf' : CF} (h : CLe cf cf') {pv pv' : AV → List AV → FP} (hp : ∀ f args H r, cf f args H = some r → pv' f args = pv f args ∧ pv' (.tup [f]) args = pv (.tup [f]) args) {os : List AOper} {prs : List (Nat × Nat)} {e : Env} {H : Heap} {r : Env × Heap} (hr : drawn cf pv os prs e H = some r) : drawn cf' pv' os prs e H = some r := by
  simp only [drawn, Option.bind_eq_some_iff] at hr ⊢
  obtain ⟨p, hp1, hr⟩ := hr
  exact ⟨p, runs_le h hp _ _ _ _ _ hp1, hr⟩
theorem callF_sub {ft ft' : FT} (hs : Sub ft ft') {ex ex' : EX} (h : ELe ex ex') {k : FuncId} {args : List AV} {H : Heap} {r : AV × Heap} (hr : callF ft ex k args H = some r) : callF ft' ex' k args H = some r := by
  refine callF_mono h ?_
  unfold callF at hr ⊢
  cases hk : ft k with
  | none => rw [hk] at hr; cases hr
  | some d => rw [hs k d hk]; rw [hk] at hr; exact hr
theorem callV_sub {ft ft' : FT} (hs : Sub ft ft') {ex ex' : EX} (h : ELe ex ex') : CLe (callV ft ex) (callV ft' ex') := by
  intro f args H r hr
  unfold callV at hr ⊢
  split at hr
  · exact callF_sub hs h hr
  · exact roundA_mono h hr
  · cases hr
theorem exec_sub {ft ft' : FT} (hs : Sub ft ft') : ∀ n, ELe (exec ft n) (exec ft' n) := by
  intro n
  induction n with
  | zero => intro c e H r h; simp [exec] at h
  | succ n ih =>
    intro c e H r h
    rw [exec.eq_def] at h ⊢
    simp only at h ⊢
    cases c with
    | skip => exact h
    | exit id => exact h
    | ret => exact h
    | stop => exact h
    | rangeF f ps asg body =>
      simp only at h ⊢
      split at h
      rotate_left
      · cases h
      rename_i hg
      rw [if_pos (isGo_sub hs hg)]
      simp only [Option.bind_eq_some_iff] at h ⊢
      obtain ⟨p, hp, hr⟩ := h
      exact ⟨p, callV_sub hs ih _ _ _ _ hp, hr⟩
    | region os draw prs =>
      simp only at h ⊢
      split at h
      · rename_i hd
        rw [if_pos hd]
        simp only [Option.map_eq_some_iff] at h ⊢
        obtain ⟨p, hp, hr⟩ := h
        exact ⟨p, drawn_le (callV_sub hs ih) (fun f args H r h => ⟨pureV_sub hs h, isExt_sub hs h _⟩) hp, hr⟩
      · rename_i hd
        rw [if_neg hd]
        simp only [Option.map_eq_some_iff] at h ⊢
        obtain ⟨p, hp, hr⟩ := h
        exact ⟨p, opers_mono (callV_sub hs ih) _ _ _ _ hp, hr⟩
    | seq a b =>
      simp only [Option.bind_eq_some_iff] at h ⊢
      obtain ⟨⟨x, e1, H1⟩, hp, hr⟩ := h
      refine ⟨(x, e1, H1), ih _ _ _ _ hp, ?_⟩
      cases x with
      | normal => exact ih _ _ _ _ hr
      | exit id => exact hr
      | ret => exact hr
    | cond o a b =>
      simp only [Option.bind_eq_some_iff] at h ⊢
      obtain ⟨t, ht, hr⟩ := h
      refine ⟨t, ht, ?_⟩
      cases t with
      | true => exact ih _ _ _ _ hr
      | false => exact ih _ _ _ _ hr
    | block id c =>
      simp only [Option.map_eq_some_iff] at h ⊢
      obtain ⟨p, hp, hr⟩ := h
      exact ⟨p, ih _ _ _ _ hp, hr⟩
    | loop c =>
      simp only [Option.bind_eq_some_iff] at h ⊢
      obtain ⟨⟨x, e1, H1⟩, hp, hr⟩ := h
      refine ⟨(x, e1, H1), ih _ _ _ _ hp, ?_⟩
      cases x with
      | normal => exact ih _ _ _ _ hr
      | exit id => exact hr
      | ret => exact hr
/-- A TABLE OF WHICH MORE IS KNOWN TELLS THE SAME. -/
theorem callL_sub {ft ft' : FT} (hs : Sub ft ft') {f : AV} {args : List AV} {H : Heap} {r : AV × Heap} (h : callL ft f args H = some r) : callL ft' f args H = some r := by
  obtain ⟨n, hn⟩ := callL_some.1 h
  exact callL_some.2 ⟨n, callV_sub hs (exec_sub hs n) _ _ _ _ hn⟩
/-- A call of a function with a body, of finished things alone, as a primitive. -/
noncomputable def goP (ft : FT) (k : FuncId) (args : List AV) : Option AV := if closedL args = true then (callL ft (.fn (.func k) [] []) args Heap.empty).map (·.1) else none
theorem goP_ok {P : Program} (hP : P.follows .mixedOrders = true) {ft : FT} (hft : FTOk P ft) {k : FuncId} (hk : ∃ n rs body, ft k = some (.go true n rs body)) : PPrimOk P k (goP ft k) := by
  intro args r h m F H w vs hI hl hv
  unfold goP at h
  split at h
  rotate_left
  · cases h
  rename_i hc
  simp only [Option.map_eq_some_iff] at h
  obtain ⟨⟨r', H'⟩, h, rfl⟩ := h
  obtain ⟨n, hn⟩ := callL_some.1 h
  obtain ⟨nt, rs, body, hk⟩ := hk
  have hpv : pureV ft (.fn (.func k) [] []) args = some (false, []) := by
    unfold pureV isPure
    simp only [List.nil_append, List.append_nil, hk, if_true, sids_closed hc]
    rfl
  have hcp := (execs_next (ft := ft) n).2
  have h3 : callV ft (exec ft n) (.fn (.func k) [] []) args H = some (r', H) := by
    obtain ⟨H3, h3, _, h4⟩ := hcp.1 _ _ _ _ _ _ _ hpv hn H (fun _ h => by cases h)
    obtain ⟨_, rfl⟩ := h4 rfl
    exact h3
  have h4 : callF ft (exec ft n) k args H = some (r', H) := by simpa [callV] using h3
  have hcf : CfOk P (callV ft (exec ft n)) := calls_of hft (fun c ac hc e e' H H' x h ro hro b0 m F w a hs hb0 hd => (exec_sound hP hft n c ac hc e e' H H' x h ro hro b0 m F w a hs hb0 hd).1)
  rcases hcf _ _ H H r' h3 m F w (.func (.func k) #[] #[]) vs hI (.fz (.fn rfl rfl (by simp) (by simp))) ⟨hl, fun i c hc => .fz (hv i c hc)⟩ with ⟨k', f', c', he, hcase⟩ | ⟨_, _, _, _, _, he, _⟩
  rotate_left
  · cases he
  cases he
  simp only [Array.empty_append, Array.append_empty] at hcase
  exact hcase
end Go.VI

set_option linter.unusedVariables false
set_option linter.unusedSimpArgs false
namespace Go.VI
/-- What Clone tells, where nobody writes it. -/
def cloF (sz b : Nat) (args : List AV) : Option AV :=
  match args with
  | [.lst []] => some (.lst [])
  | [.lst ((c :: cs) :: r)] => if (r.length + 1) * b ≤ 140737488355328 ∧ allSz sz ((c :: cs) :: r) = true then some (.lst ((c :: cs) :: r)) else none
  | _ => none
theorem cloF_sl {ft : FT} {sz b : Nat} {z : List AV} : SlD ft 8 [.tmp 2] (cloC sz b z) (cloF sz b) := by
  intro args r h
  unfold cloF at h
  split at h
  · cases h
    exact clo_dx (sz := sz) (b := b) ⟨⟨_, rfl⟩, ⟨_, rfl⟩⟩
  · split at h
    rotate_left
    · cases h
    rename_i c cs rr hc
    cases h
    refine clo_dx (sz := sz) (b := b) ⟨_, rfl, by simp, by simpa using hc.1, hc.2, ?_⟩
    have e := frz_sl 23 (hx Heap.empty [.dead, .row false sz ((c :: cs) :: rr)]) 1 0 (List.length ((c :: cs) :: rr))
    have hg : (hx Heap.empty [.dead, .row false sz ((c :: cs) :: rr)]).get 1 = some (.row false sz ((c :: cs) :: rr)) := rfl
    rw [hg] at e
    simp only [Nat.zero_add, Nat.le_refl, if_true, List.drop_zero, List.take_length] at e
    exact ⟨_, e⟩
  · cases h
theorem cloF_ok {P : Program} (hP : P.follows .mixedOrders = true) {k : FuncId} {sz b : Nat} {z : List AV} (hg : GoFn P k 8 [.tmp 2] (cloC sz b z)) : PPrimOk P k (cloF sz b) := slD_ok hP ft0_ok hg cloF_sl
end Go.VI

set_option linter.unusedVariables false
set_option linter.unusedSimpArgs false
namespace Go.VI
/-- Two whole numbers, of which the first is small. -/
abbrev SR := { p : Int × Int // 0 ≤ p.1 ∧ p.1 ≤ 1000000 }
instance srInh : Inhabited SR := ⟨⟨(0, 0), by decide⟩⟩
def srC (x : SR) : List AV := [.sc (.int .i64 x.1.1), .sc (.int .i64 x.1.2)]
def srCf (x y : SR) : Int := x.1.1 - y.1.1
def srLt (x y : SR) : Bool := decide (srCf x y < 0)
def srOf : List AV → Option SR
  | [.sc (.int .i64 a), .sc (.int .i64 b)] => if h : 0 ≤ a ∧ a ≤ 1000000 then some ⟨(a, b), h⟩ else none
  | _ => none
theorem srOf_some {r : List AV} {x : SR} (h : srOf r = some x) : r = srC x := by
  unfold srOf at h
  split at h
  · split at h
    · cases h; rfl
    · cases h
  · cases h
def srsOf : List (List AV) → Option (List SR)
  | [] => some []
  | r :: rs => (srOf r).bind fun x => (srsOf rs).map fun l => x :: l
theorem srsOf_some : ∀ {rs : List (List AV)} {l : List SR}, srsOf rs = some l → rs = l.map srC
  | [], l, h => by cases h; rfl
  | r :: rs, l, h => by
    simp only [srsOf, Option.bind_eq_some_iff, Option.map_eq_some_iff] at h
    obtain ⟨x, hx, l', hl, rfl⟩ := h
    rw [srOf_some hx, srsOf_some hl]
    rfl
theorem srOf_C (x : SR) : srOf (srC x) = some x := by
  unfold srOf srC
  simp [x.2]
theorem srsOf_map : ∀ l : List SR, srsOf (l.map srC) = some l
  | [] => rfl
  | x :: l => by simp only [List.map_cons, srsOf, srOf_C, srsOf_map l, Option.bind_some, Option.map_some]
noncomputable def sortL (l : List SR) : List SR := (Sort.pdq srLt l.toArray 0 l.length (Lib.bitLen l.length) true true).toList
theorem srLt_t {x y : SR} : srLt x y = true ↔ x.1.1 < y.1.1 := by
  unfold srLt srCf
  rw [decide_eq_true_iff]
  omega
theorem srLt_f {x y : SR} : srLt x y = false ↔ y.1.1 ≤ x.1.1 := by
  unfold srLt srCf
  rw [decide_eq_false_iff_not]
  omega
theorem srSWO : Sort.SWO srLt where
  irrefl x := srLt_f.2 (Int.le_refl _)
  trans x y z h1 h2 := srLt_t.2 (Int.lt_trans (srLt_t.1 h1) (srLt_t.1 h2))
  ntrans x y z h1 h2 := srLt_f.2 (Int.le_trans (srLt_f.1 h2) (srLt_f.1 h1))
theorem sortL_len (l : List SR) : (sortL l).length = l.length := by
  have h := (Sort.pdq_sorts srLt srSWO l.toArray 0 l.length (Lib.bitLen l.length) true true (Nat.zero_le _) (by simp) (Or.inl rfl)).1.1
  simpa [sortL] using h
theorem sortL_perm (l : List SR) : (sortL l).Perm l := by
  have h := (Sort.pdq_sorts srLt srSWO l.toArray 0 l.length (Lib.bitLen l.length) true true (Nat.zero_le _) (by simp) (Or.inl rfl)).1
  have h3 := h.2.2
  have hs := h.1
  simp at hs
  have e1 : (Sort.pdq srLt l.toArray 0 l.length (Lib.bitLen l.length) true true).extract 0 l.length = Sort.pdq srLt l.toArray 0 l.length (Lib.bitLen l.length) true true := by
    have : ∀ (a : Array SR), a.size = l.length → a.extract 0 l.length = a := fun a ha => by rw [← ha]; simp
    exact this _ hs
  rw [e1] at h3
  simpa [sortL] using h3
theorem sortL_sorted (l : List SR) : ∀ i j (hi : i < j) (hj : j < (sortL l).length), ((sortL l)[i]'(by omega)).1.1 ≤ (sortL l)[j].1.1 := by
  intro i j hi hj
  have h := (Sort.pdq_sorts srLt srSWO l.toArray 0 l.length (Lib.bitLen l.length) true true (Nat.zero_le _) (by simp) (Or.inl rfl)).2
  have hl := sortL_len l
  have := h i j (Nat.zero_le _) hi (by omega)
  rw [srLt_f] at this
  have hs : (Sort.pdq srLt l.toArray 0 l.length (Lib.bitLen l.length) true true).size = (sortL l).length := by simp [sortL]
  have gi : ∀ k (hk : k < (sortL l).length), (Sort.pdq srLt l.toArray 0 l.length (Lib.bitLen l.length) true true)[k]! = (sortL l)[k] := fun k hk => by
    rw [getElem!_pos _ k (by omega)]
    simp [sortL]
  rw [gi i (by omega), gi j hj] at this
  exact this
noncomputable def sortP (g : FuncId) (args : List AV) (H : Heap) : Option (AV × Heap) :=
  match args with
  | [.sl id 0 len, .fn (.func k) [] []] => if k = g then match H.get id with
      | some (.row false 2 rows) => if len = rows.length ∧ len ≤ 1000000 then (srsOf rows).map fun l => (.tup [], H.set id (.row false 2 ((sortL l).map srC))) else none
      | _ => none
    else none
  | [.sc (.slice none 0 0), .fn (.func k) [] []] => if k = g then some (.tup [], H) else none
  | [.emp, .fn (.func k) [] []] => if k = g then some (.tup [], H) else none
  | _ => none
end Go.VI

set_option linter.unusedVariables false
set_option linter.unusedSimpArgs false
namespace Go.VI
theorem sids_emp : sids [.emp] = some [] := rfl
theorem lenV_emp (H : Heap) : lenV H 0 .emp = some (.sc (.int .i64 (0 : Int)), H) := rfl
theorem frz_emp (n : Nat) (H : Heap) : frz (n + 1) H .emp = some (.lst [], H) := rfl
theorem cells_emp : AV.cells .emp = [.emp] := rfl
theorem one_emp : AV.one .emp = true := rfl
set_option linter.defProp false in
def vemp := And.intro @sids_emp <| And.intro @lenV_emp <| And.intro @frz_emp <| And.intro @cells_emp <| And.intro @one_emp @appA_emp
/-- Clone of a finished row, wherever it is called. -/
def ecloP (sz b : Nat) (args : List AV) (n : Nat) : Option (AV × List Blk) :=
  match args with
  | [.sc (.slice none 0 0)] => some (.sc (.slice none 0 0), [])
  | [.lst []] => some (.emp, [.dead])
  | [.lst ((c :: cs) :: r)] => if ((c :: cs) :: r).length * b ≤ 140737488355328 ∧ allSz sz ((c :: cs) :: r) = true then some (.sl (n + 1) 0 ((c :: cs) :: r).length, [.dead, .row false sz ((c :: cs) :: r)]) else none
  | _ => none
theorem ecloP_ok {P : Program} (hP : P.follows .mixedOrders = true) {k : FuncId} {sz b : Nat} {z : List AV} (hg : GoFn P k 8 [.tmp 2] (cloC sz b z)) : PrimOk P k fun args H => (ecloP sz b args H.next).map fun (r, L) => (r, ⟨H.bs ++ L⟩) := by
  intro args H H' r h
  refine cloP_ok hP hg args H H' r ?_
  simp only [Option.map_eq_some_iff, Prod.mk.injEq] at h
  obtain ⟨⟨r1, L⟩, h1, rfl, rfl⟩ := h
  unfold ecloP at h1
  split at h1
  · cases h1
    show some (_, H) = some (_, _)
    simp
  · cases h1
    rfl
  · rename_i c cs r
    split at h1
    rotate_left
    · cases h1
    rename_i hc
    cases h1
    unfold cloP
    show ((vRows H H.next (.lst ((c :: cs) :: r))).bind _) = _
    rw [show vRows H H.next (.lst ((c :: cs) :: r)) = some ((c :: cs) :: r) from rfl, Option.bind_some, if_pos ⟨by simp, hc⟩]
    rfl
  · cases h1
/-- What a call of finished things tells, if it is a scalar; the heap as it was. -/
def roP (p : List AV → Option AV) (args : List AV) (H : Heap) : Option (AV × Heap) :=
  (frzCells H args).bind fun q => (p q.1).bind fun r => match r with
    | .sc v => some (.sc v, H)
    | _ => none
theorem Inv.same {P : Program} {m : Mp} {F : Fz} {H : Heap} {w w' : World} (h : Inv P m F H w) (hs : w.heap.size ≤ w'.heap.size) (hb : ∀ b, b < w.heap.size → w'.heap[b]? = w.heap[b]?) : Inv P m F H w' :=
  h.next (MLe.refl m) (FLe.refl F) (fun b o v hv => by
    rw [cell_of_heap (hb b (h.fz_lt hv))]
    exact h.fz b o v hv) (fun j mj hj => ⟨(h.lt j mj hj).1, by have := (h.lt j mj hj).2; omega⟩)
    (fun j mj B hj hB => .inl ⟨hj, hB, hb _ (h.lt j mj hj).2, fun _ _ hv => hv⟩) h.inj
theorem roP_ok {P : Program} {k : FuncId} {p : List AV → Option AV} (hp : PPrimOk P k p) : PrimOk P k (roP p) := by
  intro args H H' r h m F w vs hI hv
  unfold roP at h
  simp only [Option.bind_eq_some_iff] at h
  obtain ⟨⟨cs, H1⟩, h1, r0, h2, h⟩ := h
  have hr : ∃ v, r0 = .sc v ∧ r = .sc v ∧ H' = H := by
    split at h
    · cases h; exact ⟨_, rfl, rfl, rfl⟩
    · cases h
  obtain ⟨v, rfl, rfl, rfl⟩ := hr
  obtain ⟨F1, o1, hf⟩ := (frz_sound FZ).2 H' H1 F args cs (fun i => vs.getD i undef) h1 hI (fun i c hc => hv.val i c hc)
  have hl : cs.length = args.length := (frzL_one h1).1
  have hI0 : Inv P (fun _ => none) F1 Heap.empty w :=
    by
    refine ⟨o1.inv.fz, ?_, ?_, ?_⟩
    · intro id mb h; cases h
    · intro id mb B h; cases h
    · intro i j mi mj h; cases h
  have fin : ∀ en w', CallPost P (fun _ => none) F1 Heap.empty w (.sc v) Heap.empty en w' → CallPost P m F H' w (.sc v) H' en w' := by
    intro en w' ⟨u, m', F', he, q1, q2, q3, q4⟩
    obtain ⟨rfl, hs⟩ := vr_sc q1
    have hb : ∀ b, b < w.heap.size → w'.heap[b]? = w.heap[b]? := fun b hb => q3.blk b hb (by intro id mb h; cases h)
    exact ⟨_, m, F, he, .fz (.sc hs), hI.same q3.sz hb, ⟨MLe.refl m, FLe.refl F, q3.sz, q3.tape, q3.os, q3.out, fun b h _ => hb b h, fun _ _ h => .inl h, fun _ _ _ h => .inl h⟩, Grew.refl m H'⟩
  rcases hp cs (.sc v) h2 (fun _ => none) F1 Heap.empty w vs hI0 (by rw [hl]; exact hv.len) hf with ⟨c1, c2⟩ | ⟨u, w', c1, c2⟩
  · exact .inl ⟨c1, c2.mono fun en w' hc => fin en w' hc⟩
  · exact .inr ⟨u, w', c1, fin _ _ c2⟩
end Go.VI
