import Derived.Test.YtoinghjainpkfaaS3
/- What the claim hangs on, part 4: VXJ VXK VXL VXM VXN VZ VZT SA SB SC. -/
set_option linter.unusedVariables false
set_option linter.unusedSimpArgs false
set_option maxRecDepth 100000
namespace Go.VI
attribute [local congr] AW_congr OW_congr DW_congr NW_congr VW_congr GW_congr PW_congr KW_congr ite_congr' GV_congr CV_congr dx_congr dOW_congr dop_congr CP_congr AQ_congr AZ_congr callD_congr NQ_congr
theorem sl_nil0 (H : Heap) (sz : Nat) (a c : Option Int) (ha : a = none ∨ a = some 0) (hc : c = none ∨ c = some 0) : sliceA H sz (.sc (.slice none 0 0)) a c none = some (.sc (.slice none 0 0)) := by
  rcases ha with rfl | rfl <;> rcases hc with rfl | rfl <;> rfl
theorem res_tmp {H : Heap} {n t : Nat} {f : Nat → AV} (ht : t < n) : resultsA H (mkE n f) [.tmp t] = some (f t) := by
  simp only [resultsA, List.mapM_cons, List.mapM_nil, resOf]
  rw [mkE_get, if_pos ht]
  rfl
theorem lenV_v {H G : Heap} {id : Nat} {v : AV} {xs : List (List AV)} (h : vRows H id v = some xs) : lenV G 0 v = some (.sc (.int .i64 (xs.length : Int)), G) := by
  unfold vRows at h
  split at h
  · cases h; rfl
  · cases h; rfl
  · cases h; rfl
  · rename_i j off l
    split at h
    · rw [rowsOf_sl] at h
      split at h
      · split at h
        · rename_i hle
          cases h
          rw [lenV_sl]
          simp
          omega
        · cases h
      · cases h
    · cases h
  · cases h
section
variable {ft : FT} {sz b ins ov rot idx : Nat} {z : List AV}
theorem ins_nil {H : Heap} {v : AV} {xs : List (List AV)} (hx1 : vRows H H.next v = some xs) (ha : allSz sz xs = true) (hb : xs.length * b ≤ 140737488355328) {r : AV} {H' : Heap}
    (h : (xs.length = 0 ∧ r = .sc (.slice none 0 0) ∧ H' = H) ∨ (xs.length ≠ 0 ∧ r = .sl H.next 0 xs.length ∧ H' = H.put H.next (.row false sz xs))) :
    dCall ft (fun _ => none) 95 [.tmp 6] (insC sz b z ov rot) [.sc (.slice none 0 0), .sc (.int .i64 0), v] H fun r2 H2 => r2 = r ∧ H2 = H' := by
  have hlv := fun G => lenV_v (G := G) hx1
  have hrw : rowsOf (hx H []) v = some xs := by rw [hx_nil]; exact vRows_rows hx1
  have s0 := fun G => sl_nil0 G sz (some 0) none (.inr rfl) (.inl rfl)
  unfold dCall
  rw [enterE_mkE _ _ (by simp), ← hx_nil H]
  unfold insC
  rcases h with ⟨h0, rfl, rfl⟩ | ⟨h0, rfl, rfl⟩
  · have d1 : ((xs.length : Int) == 0) = true := by simp [h0]
    simp only [vx, ↓vp, vq0, vq1, vq2, vq3, vr0, vr1, vr2, vr3, vr4, vr5, vr6, vr7, vr8, vr9, vr10, vr11, vr12, vr13, vr14, vr15, vr16, vr17, vr18, vr19, vr20, vr21, vr22, vr23, vr24, vr25, vr26, vr27, vr28, vr29, vr30, vr31, vr32, vr33, vr34, opS, fpS, okP, pack, nAl, allocA, shId, leaves, fillA, fillR, splice, Nat.reduceLT, Nat.reduceEqDiff, Nat.reduceLeDiff, Nat.reduceAdd, Nat.reduceSub, Nat.reduceMul, Int.reduceBEq, Int.reduceBNe, Int.reduceLT, Int.reduceLE, Int.reduceEq, reduceIte, reduceCtorEq, opI0, opI1, s0, hlv, d1]
    refine ⟨_, res_tmp (by decide), ?_⟩
    simp only [↓vp, vq0, vq1, vq2, vq3, vr0, vr1, vr2, vr3, vr4, vr5, vr6, vr7, vr8, vr9, vr10, vr11, vr12, vr13, vr14, vr15, vr16, vr17, vr18, vr19, vr20, vr21, vr22, vr23, vr24, vr25, vr26, vr27, vr28, vr29, vr30, vr31, vr32, vr33, vr34, opS, fpS, okP, pack, nAl, allocA, shId, leaves, fillA, fillR, splice, Nat.reduceLT, Nat.reduceEqDiff, Nat.reduceLeDiff, Nat.reduceAdd, Nat.reduceSub, Nat.reduceMul, Int.reduceBEq, Int.reduceBNe, Int.reduceLT, Int.reduceLE, Int.reduceEq, reduceIte, reduceCtorEq]
    exact hx_nil _
  · have d1 : ((xs.length : Int) == 0) = false := beq_eq_false_iff_ne.2 (by omega)
    have h1 : (xs.length = 0) = False := eq_false h0
    have h2 : (xs.length * b ≤ 140737488355328) = True := eq_true hb
    simp only [vx, ↓vp, vq0, vq1, vq2, vq3, vr0, vr1, vr2, vr3, vr4, vr5, vr6, vr7, vr8, vr9, vr10, vr11, vr12, vr13, vr14, vr15, vr16, vr17, vr18, vr19, vr20, vr21, vr22, vr23, vr24, vr25, vr26, vr27, vr28, vr29, vr30, vr31, vr32, vr33, vr34, opS, fpS, okP, pack, nAl, allocA, shId, leaves, fillA, fillR, splice, Nat.reduceLT, Nat.reduceEqDiff, Nat.reduceLeDiff, Nat.reduceAdd, Nat.reduceSub, Nat.reduceMul, Int.reduceBEq, Int.reduceBNe, Int.reduceLT, Int.reduceLE, Int.reduceEq, reduceIte, reduceCtorEq, opI0, opI1, s0, hlv, d1, hrw, AQ_nil, h1, h2, ha]
    refine ⟨_, res_tmp (by decide), ?_⟩
    simp only [↓vp, vq0, vq1, vq2, vq3, vr0, vr1, vr2, vr3, vr4, vr5, vr6, vr7, vr8, vr9, vr10, vr11, vr12, vr13, vr14, vr15, vr16, vr17, vr18, vr19, vr20, vr21, vr22, vr23, vr24, vr25, vr26, vr27, vr28, vr29, vr30, vr31, vr32, vr33, vr34, opS, fpS, okP, pack, nAl, allocA, shId, leaves, fillA, fillR, splice, Nat.reduceLT, Nat.reduceEqDiff, Nat.reduceLeDiff, Nat.reduceAdd, Nat.reduceSub, Nat.reduceMul, Int.reduceBEq, Int.reduceBNe, Int.reduceLT, Int.reduceLE, Int.reduceEq, reduceIte, reduceCtorEq]
    have hp := hx_put0 H [] (.row false sz xs)
    rw [hx_nil] at hp
    rw [hp]
    rfl
theorem insP_sl (hov : ft ov = some (.prim ovP)) (hz : z.length = sz) (b0 : 0 < b) : SlP ft 95 [.tmp 6] (insC sz b z ov rot) (insP sz b) := by
  intro args H r H' h
  unfold insP at h
  split at h
  rotate_left
  · cases h
  rename_i s i v
  rcases cutP_some h with ⟨id, len, rows, xs, a, c, rfl, rfl, hc, hg, hvr, h1, hlen, hac, hcl, hxa, hb, rfl, rfl⟩ | ⟨xs, rfl, rfl, _, _, hvr, hxa, hb, h⟩
  · have hac' : a = c := by omega
    subst hac'
    refine .inl ⟨id, sz, 0, rows, _, ⟨0, len, by simp⟩, hg, rfl, rfl, fun rsF cn f1 f2 f3 => ?_⟩
    exact ins_walk hov hz (Heap.get_lt hg) f1 hlen f2 f3 hcl (vOk_of (Heap.get_lt hg) h1 hvr hxa) hb b0
  · exact .inr (ins_nil hvr hxa hb h)
theorem repP_sl (hins : ft ins = some (.prim (insP sz b))) (hov : ft ov = some (.prim ovP)) (hz : z.length = sz) (b0 : 0 < b) : SlP ft 224 [.tmp 8] (repC sz b z ins ov rot idx) (repP sz b) := by
  have cdi : ∀ F C, calleeD ft (.fn (.func ins) F C) = none := fun _ _ => calleeD_det (isDp_prim hins)
  intro args H r H' h
  unfold repP at h
  split at h
  rotate_left
  · cases h
  rename_i s i j v
  have h0 := h
  rcases cutP_some h with ⟨id, len, rows, xs, a, c, rfl, rfl, rfl, hg, hvr, h1, hlen, hac, hcl, hxa, hb, rfl, rfl⟩ | ⟨xs, rfl, rfl, rfl, _, hvr, hxa, hb, h⟩
  · refine .inl ⟨id, sz, 0, rows, _, ⟨0, len, by simp⟩, hg, rfl, rfl, fun rsF cn f1 f2 f3 => ?_⟩
    exact rep_walk hins hov hz (Heap.get_lt hg) f1 hlen f2 f3 hac hcl h1 hvr hxa hb b0
  · have s0 := fun G => sl_nil0 G sz (some 0) (some 0) (.inr rfl) (.inr rfl)
    have hle : H.next ≤ H'.next := by
      rcases h with ⟨_, _, rfl⟩ | ⟨_, _, rfl⟩
      · exact Nat.le_refl _
      · exact Heap.next_put_le _ _ _
    have hk : insP sz b [.sc (.slice none 0 0), .sc (.int .i64 0), v] (hx H []) = some (r, H') := by rw [hx_nil]; exact h0
    have kk := fun Q => k_prim hins (Q := Q) hk (by rw [hx_nil]; exact hle)
    right
    unfold dCall
    rw [enterE_mkE _ _ (by simp), ← hx_nil H]
    unfold repC
    simp only [vx, ↓vp, vq0, vq1, vq2, vq3, vr0, vr1, vr2, vr3, vr4, vr5, vr6, vr7, vr8, vr9, vr10, vr11, vr12, vr13, vr14, vr15, vr16, vr17, vr18, vr19, vr20, vr21, vr22, vr23, vr24, vr25, vr26, vr27, vr28, vr29, vr30, vr31, vr32, vr33, vr34, opS, fpS, okP, pack, nAl, allocA, shId, leaves, fillA, fillR, splice, Nat.reduceLT, Nat.reduceEqDiff, Nat.reduceLeDiff, Nat.reduceAdd, Nat.reduceSub, Nat.reduceMul, Int.reduceBEq, Int.reduceBNe, Int.reduceLT, Int.reduceLE, Int.reduceEq, reduceIte, reduceCtorEq, opI0, opI1, s0, kk, cdi]
    rw [← hx_nil H']
    simp only [vx, ↓vp, vq0, vq1, vq2, vq3, vr0, vr1, vr2, vr3, vr4, vr5, vr6, vr7, vr8, vr9, vr10, vr11, vr12, vr13, vr14, vr15, vr16, vr17, vr18, vr19, vr20, vr21, vr22, vr23, vr24, vr25, vr26, vr27, vr28, vr29, vr30, vr31, vr32, vr33, vr34, opS, fpS, okP, pack, nAl, allocA, shId, leaves, fillA, fillR, splice, Nat.reduceLT, Nat.reduceEqDiff, Nat.reduceLeDiff, Nat.reduceAdd, Nat.reduceSub, Nat.reduceMul, Int.reduceBEq, Int.reduceBNe, Int.reduceLT, Int.reduceLE, Int.reduceEq, reduceIte, reduceCtorEq]
    refine ⟨_, res_tmp (by decide), ?_⟩
    simp only [↓vp, vq0, vq1, vq2, vq3, vr0, vr1, vr2, vr3, vr4, vr5, vr6, vr7, vr8, vr9, vr10, vr11, vr12, vr13, vr14, vr15, vr16, vr17, vr18, vr19, vr20, vr21, vr22, vr23, vr24, vr25, vr26, vr27, vr28, vr29, vr30, vr31, vr32, vr33, vr34, opS, fpS, okP, pack, nAl, allocA, shId, leaves, fillA, fillR, splice, Nat.reduceLT, Nat.reduceEqDiff, Nat.reduceLeDiff, Nat.reduceAdd, Nat.reduceSub, Nat.reduceMul, Int.reduceBEq, Int.reduceBNe, Int.reduceLT, Int.reduceLE, Int.reduceEq, reduceIte, reduceCtorEq]
theorem delP_sl (b0 : 0 < b) : SlP ft 33 [.tmp 6] (delC sz b z) (delP sz b) := by
  intro args H r H' h
  unfold delP at h
  split at h
  rotate_left
  · cases h
  rename_i id0 o n i j
  split at h
  rotate_left
  · cases h
  rename_i hij
  rcases cutP_some h with ⟨id, len, rows, xs, a, c, he, rfl, rfl, hg, hvr, h1, hlen, hac, hcl, hxa, hb, rfl, rfl⟩ | ⟨xs, he, _⟩
  · cases he
    have hxs : xs = [] := by unfold vRows at hvr; exact (Option.some.inj hvr).symm
    subst hxs
    refine .inl ⟨id0, sz, 1, rows, _, ⟨0, n, by simp⟩, hg, rfl, rfl, fun rsF cn f1 f2 f3 => ?_⟩
    have := del_walk (ft := ft) (z := z) (Heap.get_lt hg) f1 hlen f2 f3 (show a < c by omega) hcl (by simpa using hb) b0
    rw [List.append_nil]
    exact this
  · cases he
end
end Go.VI

set_option linter.unusedVariables false
set_option linter.unusedSimpArgs false
namespace Go.VI
section
variable {P : Program}
def FrzTo (r : AV) (r2 : AV) (H2 : Heap) : Prop := ∃ H3, frz FZ H2 r2 = some (r, H3)
def SlD (ft : FT) (n : Nat) (rs : List ARes) (body : ACode) (p : List AV → Option AV) : Prop := ∀ args r, p args = some r → dCall ft (fun _ => none) n rs body args Heap.empty (FrzTo r)
theorem slD_ok (hP : P.follows .mixedOrders = true) {ft : FT} (hft : FTOk P ft) {k : FuncId} {n : Nat} {rs : List ARes} {body : ACode} (hg : GoFn P k n rs body) {p : List AV → Option AV} (hp : SlD ft n rs body p) : PPrimOk P k p := by
  intro args r h m F H w vs hI hl hv
  have hI0 : Inv P (fun _ => none) F Heap.empty w := ⟨hI.fz, fun _ _ h => (by cases h), fun _ _ _ h _ => (by cases h), fun _ _ _ _ h _ _ _ _ => (by cases h)⟩
  obtain ⟨h1, h2⟩ := dx_calls hP hft hg hI0 (κ := fun _ => none) (fun id cn h => by cases h) (args := args) (vs := vs) ⟨hl, fun i c hc => .fz (hv i c hc)⟩ (hp args r h)
  refine .inl ⟨h1, h2.mono fun en w2 ⟨r1, Hc, ⟨Hc2, hz2⟩, u, m', F', he, hr, hI2, hE2, hG⟩ => ?_⟩
  obtain ⟨F2, o2, hvf⟩ := (frz_sound FZ).1 Hc Hc2 F' r1 r u hz2 hI2 hr
  have hold : ∀ b, b < w.heap.size → w2.heap[b]? = w.heap[b]? := fun b hb => hE2.blk b hb (fun _ _ h => by cases h)
  have hmn : ∀ id mb, m' id = some mb → w.heap.size ≤ mb.cb := fun id mb h => by
    rcases hE2.mn id mb h with h | h | ⟨_, _, h, _⟩
    · cases h
    · exact h
    · cases h
  have hF2 : ∀ b o v, F2 b o = some v → F b o = some v ∨ w.heap.size ≤ b := fun b o v hv => by
    rcases o2.fr.new b o v hv with h | ⟨id, mb, h, rfl⟩
    · rcases hE2.fn b o v h with h | h | ⟨_, _, h, _⟩
      · exact .inl h
      · exact .inr h
      · cases h
    · exact .inr (hmn id mb h)
  have hF12 : FLe F F2 := hE2.ff.trans o2.fr.le
  have hIm : Inv P m F2 H w2 := by
    refine hI.next (MLe.refl m) hF12 o2.inv.fz (fun id mb h => ?_) (fun id mb B h hB => ?_) hI.inj
    · have := hI.lt id mb h
      have := hE2.sz
      omega
    · have hlt := (hI.lt id mb h).2
      refine .inl ⟨h, hB, hold _ hlt, fun o v hv => ?_⟩
      rcases hF2 _ o v hv with h | h
      · exact h
      · omega
  have hEm : Ext m F w m F2 w2 := ⟨MLe.refl m, hF12, hE2.sz, hE2.tape, hE2.os, hE2.out, fun b hb _ => hold b hb, fun _ _ h => .inl h, fun b o v hv => by
    rcases hF2 b o v hv with h | h
    · exact .inl h
    · exact .inr (.inl h)⟩
  exact ⟨u, m, F2, he, .fz hvf, hIm, hEm, ⟨fun _ _ h => .inl h, Nat.le_refl _⟩⟩
end
/-- What Clone may tell. -/
def cloD (sz b : Nat) (args : List AV) (H : Heap) (K : AV → Heap → Prop) : Prop :=
  match args with
  | [.lst []] => K (.sc (.slice none 0 0)) H ∧ K (.sl H.next 0 0) (H.put H.next (.row false sz []))
  | [v] => ∃ xs, vRows H H.next v = some xs ∧ xs ≠ [] ∧ xs.length * b ≤ 140737488355328 ∧ allSz sz xs = true ∧ K (.sl (H.next + 1) 0 xs.length) (hx H [.dead, .row false sz xs])
  | _ => False
end Go.VI

set_option linter.unusedVariables false
set_option linter.unusedSimpArgs false
set_option maxRecDepth 100000
namespace Go.VI
attribute [local congr] AW_congr OW_congr DW_congr NW_congr VW_congr GW_congr PW_congr KW_congr ite_congr' GV_congr CV_congr dx_congr dOW_congr dop_congr CP_congr AQ_congr AZ_congr callD_congr NQ_congr
def cloC (sz b : Nat) (z : List AV) : ACode := (.seq (.region [⟨(some 2), (.mov (.const (.slice none 0 0))), none⟩] false []) (.seq (.seq (.region [⟨(some 3), (.mov (.tmp 0)), none⟩, ⟨(some 4), (.isnil false 0 (.tmp 3)), none⟩] false []) (.cond (.tmp 4) (.seq (.region [⟨(some 2), (.mov (.const (.slice none 0 0))), none⟩] false []) .ret) .skip)) (.seq (.region [⟨(some 5), (.bslice sz z 0 []), none⟩, ⟨(some 6), (.mov (.tmp 0)), none⟩, ⟨(some 7), (.app sz b (.tmp 5) (.tmp 6)), none⟩, ⟨(some 2), (.mov (.tmp 7)), none⟩] false []) .ret)))
theorem AQ_det {nid sz b : Nat} {H : Heap} {s : AV} {o : Option (List (List AV))} {K : AV → Heap → Prop} : AQ (fun _ => none) nid H sz b s o K ↔ PW (o.bind fun xs => appA nid H sz b s xs) K := by
  unfold AQ
  rw [if_neg]
  unfold kOf
  split <;> simp
theorem NQ_det {H : Heap} {neg : Bool} {v : AV} {K : AV → Heap → Prop} {b : Bool} (h : isE v = false) (h2 : isnilA 0 v = some b) : NQ H neg 0 v K ↔ K (.sc (.bool (b != neg))) H := by
  unfold NQ
  rw [h, h2]
  simp only [Bool.and_false, Bool.false_eq_true, if_false, Option.map_some]
  exact PW_some
theorem rows_hx {H : Heap} {v : AV} {xs : List (List AV)} (L : List Blk) (h : rowsOf H v = some xs) : rowsOf (hx H L) v = some xs := by
  unfold rowsOf at h ⊢
  split at h
  · exact h
  · exact h
  · split at h
    · rename_i hg
      simp only [hx_get_old H L _ (Heap.get_lt hg), hg]
      exact h
    · cases h
  · cases h
section
variable {P : Program} {ft : FT} {sz b : Nat} {z : List AV}
theorem clo_dx {args : List AV} {H : Heap} {K : AV → Heap → Prop} (h : cloD sz b args H K) : dCall ft (fun _ => none) 8 [.tmp 2] (cloC sz b z) args H K := by
  unfold cloD at h
  split at h
  · obtain ⟨h1, h2⟩ := h
    unfold dCall
    rw [enterE_mkE _ _ (by simp), ← hx_nil H]
    rw [← hx_nil H] at h1
    unfold cloC
    have hx1 : H.put H.next (.row false sz []) = hx H [.row false sz []] := by
      have := hx_put0 H [] (.row false sz [])
      rw [hx_nil] at this
      rw [this]
      rfl
    rw [hx1] at h2
    simp only [vx, ↓vp, vq0, vq1, vq2, vq3, vr0, vr1, vr2, vr3, vr4, vr5, vr6, vr7, vr8, vr9, vr10, vr11, vr12, vr13, vr14, vr15, vr16, vr17, vr18, vr19, vr20, vr21, vr22, vr23, vr24, vr25, vr26, vr27, vr28, vr29, vr30, vr31, vr32, vr33, vr34, opS, fpS, okP, pack, nAl, allocA, shId, leaves, fillA, fillR, splice, Nat.reduceLT, Nat.reduceEqDiff, Nat.reduceLeDiff, Nat.reduceAdd, Nat.reduceSub, Nat.reduceMul, Int.reduceBEq, Int.reduceBNe, Int.reduceLT, Int.reduceLE, Int.reduceEq, reduceIte, reduceCtorEq, AQ_det]
    rw [if_pos (by omega)]
    refine ⟨⟨_, res_tmp (by decide), ?_⟩, ⟨_, res_tmp (by decide), ?_⟩⟩
    · simp only [↓vp, vq0, vq1, vq2, vq3, vr0, vr1, vr2, vr3, vr4, vr5, vr6, vr7, vr8, vr9, vr10, vr11, vr12, vr13, vr14, vr15, vr16, vr17, vr18, vr19, vr20, vr21, vr22, vr23, vr24, vr25, vr26, vr27, vr28, vr29, vr30, vr31, vr32, vr33, vr34, opS, fpS, okP, pack, nAl, allocA, shId, leaves, fillA, fillR, splice, Nat.reduceLT, Nat.reduceEqDiff, Nat.reduceLeDiff, Nat.reduceAdd, Nat.reduceSub, Nat.reduceMul, Int.reduceBEq, Int.reduceBNe, Int.reduceLT, Int.reduceLE, Int.reduceEq, reduceIte, reduceCtorEq]
      exact h1
    · simp only [↓vp, vq0, vq1, vq2, vq3, vr0, vr1, vr2, vr3, vr4, vr5, vr6, vr7, vr8, vr9, vr10, vr11, vr12, vr13, vr14, vr15, vr16, vr17, vr18, vr19, vr20, vr21, vr22, vr23, vr24, vr25, vr26, vr27, vr28, vr29, vr30, vr31, vr32, vr33, vr34, opS, fpS, okP, pack, nAl, allocA, shId, leaves, fillA, fillR, splice, Nat.reduceLT, Nat.reduceEqDiff, Nat.reduceLeDiff, Nat.reduceAdd, Nat.reduceSub, Nat.reduceMul, Int.reduceBEq, Int.reduceBNe, Int.reduceLT, Int.reduceLE, Int.reduceEq, reduceIte, reduceCtorEq]
      exact h2
  · rename_i v _
    obtain ⟨xs, hxs, h0, hb, ha, hK⟩ := h
    unfold dCall
    rw [enterE_mkE _ _ (by simp), ← hx_nil H]
    unfold cloC
    have hv : isE v = false ∧ isnilA 0 v = some false := by
      unfold vRows at hxs
      split at hxs
      · cases hxs; exact absurd rfl h0
      · cases hxs; exact absurd rfl h0
      · exact ⟨rfl, rfl⟩
      · exact ⟨rfl, rfl⟩
      · cases hxs
    have nq := fun H' K' => NQ_det (H := H') (neg := false) (K := K') hv.1 hv.2
    have hr : ∀ L, rowsOf (hx H L) v = some xs := fun L => rows_hx L (vRows_rows hxs)
    have hl : ¬ xs.length = 0 := fun e => h0 (List.eq_nil_of_length_eq_zero e)
    have d1 : (xs.length ≤ 0) = False := eq_false (by omega)
    have d2 : (xs.length * b ≤ 140737488355328) = True := eq_true hb
    simp only [vx, ↓vp, vq0, vq1, vq2, vq3, vr0, vr1, vr2, vr3, vr4, vr5, vr6, vr7, vr8, vr9, vr10, vr11, vr12, vr13, vr14, vr15, vr16, vr17, vr18, vr19, vr20, vr21, vr22, vr23, vr24, vr25, vr26, vr27, vr28, vr29, vr30, vr31, vr32, vr33, vr34, opS, fpS, okP, pack, nAl, allocA, shId, leaves, fillA, fillR, splice, Nat.reduceLT, Nat.reduceEqDiff, Nat.reduceLeDiff, Nat.reduceAdd, Nat.reduceSub, Nat.reduceMul, Int.reduceBEq, Int.reduceBNe, Int.reduceLT, Int.reduceLE, Int.reduceEq, reduceIte, reduceCtorEq, AQ_det, nq, hr, ha, d1, d2]
    refine ⟨_, res_tmp (by decide), ?_⟩
    simp only [↓vp, vq0, vq1, vq2, vq3, vr0, vr1, vr2, vr3, vr4, vr5, vr6, vr7, vr8, vr9, vr10, vr11, vr12, vr13, vr14, vr15, vr16, vr17, vr18, vr19, vr20, vr21, vr22, vr23, vr24, vr25, vr26, vr27, vr28, vr29, vr30, vr31, vr32, vr33, vr34, opS, fpS, okP, pack, nAl, allocA, shId, leaves, fillA, fillR, splice, Nat.reduceLT, Nat.reduceEqDiff, Nat.reduceLeDiff, Nat.reduceAdd, Nat.reduceSub, Nat.reduceMul, Int.reduceBEq, Int.reduceBNe, Int.reduceLT, Int.reduceLE, Int.reduceEq, reduceIte, reduceCtorEq]
    exact hK
  · exact h.elim
theorem ft0_ok : FTOk P (fun _ => none) := fun k d h => by cases h
theorem cloD_ok (hP : P.follows .mixedOrders = true) {k : FuncId} (hg : GoFn P k 8 [.tmp 2] (cloC sz b z)) : DPrimOk P k (cloD sz b) := by
  intro args H K h m F w vs hI hv
  exact dx_calls hP ft0_ok hg hI (κ := fun _ => none) (fun id cn h => by cases h) hv (clo_dx h)
/-- What Clone tells, where it does not matter whether an empty slice is nil. -/
def cloP (sz b : Nat) (args : List AV) (H : Heap) : Option (AV × Heap) :=
  match args with
  | [.sc (.slice none 0 0)] => some (.sc (.slice none 0 0), H)
  | [.lst []] => some (.lst [], H.pad 1)
  | [v] => (vRows H H.next v).bind fun xs => if xs ≠ [] ∧ xs.length * b ≤ 140737488355328 ∧ allSz sz xs = true then some (.sl (H.next + 1) 0 xs.length, hx H [.dead, .row false sz xs]) else none
  | _ => none
theorem cloP_ok (hP : P.follows .mixedOrders = true) {k : FuncId} (hg : GoFn P k 8 [.tmp 2] (cloC sz b z)) : PrimOk P k (cloP sz b) := by
  intro args H H' r h m F w vs hI hv
  have go : ∀ K, dCall (fun _ => none) (fun _ => none) 8 [.tmp 2] (cloC sz b z) args H K → (callFunc k vs).run P w = .ok (.enter k vs) w ∧ Calls P k vs w fun en w' => ∃ r H', K r H' ∧ CallPost P m F H w r H' en w' :=
    fun K hK => dx_calls hP ft0_ok hg hI (κ := fun _ => none) (fun id cn h => by cases h) hv hK
  unfold cloP at h
  split at h
  · cases h
    obtain ⟨h1, h2⟩ := go (fun r2 H2 => r2 = .sc (.slice none 0 0) ∧ H2 = H) (by
      unfold dCall
      rw [enterE_mkE _ _ (by simp), ← hx_nil H]
      unfold cloC
      have nq := fun H' K' => NQ_det (H := H') (neg := false) (K := K') (v := .sc (.slice none 0 0)) rfl rfl
      simp only [vx, ↓vp, vq0, vq1, vq2, vq3, vr0, vr1, vr2, vr3, vr4, vr5, vr6, vr7, vr8, vr9, vr10, vr11, vr12, vr13, vr14, vr15, vr16, vr17, vr18, vr19, vr20, vr21, vr22, vr23, vr24, vr25, vr26, vr27, vr28, vr29, vr30, vr31, vr32, vr33, vr34, opS, fpS, okP, pack, nAl, allocA, shId, leaves, fillA, fillR, splice, Nat.reduceLT, Nat.reduceEqDiff, Nat.reduceLeDiff, Nat.reduceAdd, Nat.reduceSub, Nat.reduceMul, Int.reduceBEq, Int.reduceBNe, Int.reduceLT, Int.reduceLE, Int.reduceEq, reduceIte, reduceCtorEq, AQ_det, nq]
      refine ⟨_, res_tmp (by decide), ?_⟩
      simp only [↓vp, vq0, vq1, vq2, vq3, vr0, vr1, vr2, vr3, vr4, vr5, vr6, vr7, vr8, vr9, vr10, vr11, vr12, vr13, vr14, vr15, vr16, vr17, vr18, vr19, vr20, vr21, vr22, vr23, vr24, vr25, vr26, vr27, vr28, vr29, vr30, vr31, vr32, vr33, vr34, opS, fpS, okP, pack, nAl, allocA, shId, leaves, fillA, fillR, splice, Nat.reduceLT, Nat.reduceEqDiff, Nat.reduceLeDiff, Nat.reduceAdd, Nat.reduceSub, Nat.reduceMul, Int.reduceBEq, Int.reduceBNe, Int.reduceLT, Int.reduceLE, Int.reduceEq, reduceIte, reduceCtorEq])
    refine .inl ⟨h1, h2.mono fun en w' ⟨r2, H2, ⟨h3, h4⟩, hc⟩ => ?_⟩
    subst h3 h4
    exact hc
  · cases h
    obtain ⟨h1, h2⟩ := go (fun r2 H2 => (r2 = .sc (.slice none 0 0) ∧ H2 = H) ∨ (r2 = .sl H.next 0 0 ∧ H2 = H.put H.next (.row false sz []))) (clo_dx ⟨.inl ⟨rfl, rfl⟩, .inr ⟨rfl, rfl⟩⟩)
    refine .inl ⟨h1, h2.mono fun en w' ⟨r2, H2, hK, u, m', F', he, q1, q2, q3, q4⟩ => ?_⟩
    rcases hK with ⟨rfl, rfl⟩ | ⟨rfl, rfl⟩
    · obtain ⟨rfl, _⟩ := vr_sc q1
      exact ⟨_, m', F', he, .fz (.lst (sz := 0) (b := 0) (o := 0) (fun _ _ => undef) (Nat.le_refl _) (by simp) (by simp) (by simp) (by simp) (by simp)), q2.pad 1, q3, ⟨q4.dom, by rw [Heap.next_pad]; omega⟩⟩
    · obtain ⟨mb, cap, hm, rfl, hcap, hlen⟩ := vr_sl q1
      have hk := q2.kill H.next
      have e1 : (H.put H.next (.row false sz [])).set H.next .dead = H.pad 1 := by
        have := hx_put0 H [] (.row false sz [])
        rw [hx_nil] at this
        rw [this]
        simp [hx, Heap.pad, Heap.set, Heap.next]
      rw [e1] at hk
      exact ⟨_, m', F', he, .fz (.lst (rows := []) (sz := 0) (b := 0) (o := 0) (fun _ _ => undef) (Nat.zero_le _) (by simp) (by simp) (by simp) (by simp) (by simp)), hk, q3, ⟨q4.dom, by rw [Heap.next_pad]; omega⟩⟩
  · rename_i v _ _
    simp only [Option.bind_eq_some_iff] at h
    obtain ⟨xs, hxs, h⟩ := h
    split at h
    rotate_left
    · cases h
    rename_i hc
    cases h
    obtain ⟨h1, h2⟩ := go (fun r2 H2 => r2 = .sl (H.next + 1) 0 xs.length ∧ H2 = hx H [.dead, .row false sz xs]) (clo_dx (by
      unfold cloD
      split
      · rename_i e; cases e; cases hxs; exact absurd rfl hc.1
      · rename_i e; cases e; exact ⟨xs, hxs, hc.1, hc.2.1, hc.2.2, rfl, rfl⟩
      · rename_i e; exact e _ rfl))
    exact .inl ⟨h1, h2.mono fun en w' ⟨r2, H2, ⟨h3, h4⟩, hc⟩ => by rw [← h3, ← h4]; exact hc⟩
  · cases h
end
end Go.VI

set_option linter.unusedVariables false
set_option linter.unusedSimpArgs false
namespace Go.VI
def Sub (ft ft' : FT) : Prop := ∀ k d, ft k = some d → ft' k = some d
theorem pureV_sub {ft ft' : FT} (hs : Sub ft ft') {f : AV} {args : List AV} {ex : EX} {H : Heap} {r : AV × Heap} (h : callV ft ex f args H = some r) : pureV ft' f args = pureV ft f args := by
  unfold callV at h
  unfold pureV
  split at h
  · rename_i k first caps
    have : isPure ft' k = isPure ft k := by
      unfold isPure
      cases hk : ft k with
      | none => unfold callF at h; rw [hk] at h; cases h
      | some d => rw [hs k d hk]
    simp only [this]
  · rfl
  · cases h
theorem isGo_sub {ft ft' : FT} (hs : Sub ft ft') {f : AV} (h : isGo ft f = true) : isGo ft' f = true := by
  unfold isGo at h ⊢
  split at h
  · rename_i k first caps
    cases hk : ft k with
    | none => rw [hk] at h; cases h
    | some d => rw [hs k d hk]; rw [hk] at h; exact h
  · cases h
theorem runs_le {cf cf' : CF} (h : CLe cf cf') {pv pv' : AV → List AV → FP} (hp : ∀ f args H r, cf f args H = some r → pv' f args = pv f args) : ∀ (os : List AOper) (nid : Nat) (e : Env) (H : Heap) (r : List FQ × Env × Heap), runs cf pv nid os e H = some r → runs cf' pv' nid os e H = some r
  | [], nid, e, H, r, hr => hr
  | o :: os, nid, e, H, r, hr => by
    simp only [runs, Option.bind_eq_some_iff, Option.map_eq_some_iff] at hr ⊢
    obtain ⟨p, hp1, q, hq, hr⟩ := hr
    refine ⟨p, oper_mono h hp1, q, runs_le h hp os _ _ _ _ hq, ?_⟩
    have : fpO pv' nid e o = fpO pv nid e o := by
      unfold fpO
      split
      · rename_i hw
        obtain ⟨d, op, g⟩ := o
        cases op with
        | call f args =>
          simp only [fpS]
          unfold oper at hp1
          split at hp1
          · rw [Option.map_eq_some_iff] at hp1
            obtain ⟨r1, hr1, _⟩ := hp1
            exact hp _ _ _ _ hr1
          · cases hp1
        | _ => rfl
      · rfl
    rw [this]
    exact hr
theorem drawn_le {cf cf' : CF} (h : CLe cf cf') {pv pv' : AV → List AV → FP} (hp : ∀ f args H r, cf f args H = some r → pv' f args = pv f args) {os : List AOper} {prs : List (Nat × Nat)} {e : Env} {H : Heap} {r : Env × Heap} (hr : drawn cf pv os prs e H = some r) : drawn cf' pv' os prs e H = some r := by
  simp only [drawn, Option.bind_eq_some_iff] at hr ⊢
  obtain ⟨p, hp1, hr⟩ := hr
  exact ⟨p, runs_le h hp _ _ _ _ _ hp1, hr⟩
theorem callF_sub {ft ft' : FT} (hs : Sub ft ft') {ex ex' : EX} (h : ELe ex ex') {k : FuncId} {args : List AV} {H : Heap} {r : AV × Heap} (hr : callF ft ex k args H = some r) : callF ft' ex' k args H = some r := by
  refine callF_mono h ?_
  unfold callF at hr ⊢
  cases hk : ft k with
  | none => rw [hk] at hr; cases hr
  | some d => rw [hs k d hk]; rw [hk] at hr; exact hr
theorem callV_sub {ft ft' : FT} (hs : Sub ft ft') {ex ex' : EX} (h : ELe ex ex') : CLe (callV ft ex) (callV ft' ex') := by
  intro f args H r hr
  unfold callV at hr ⊢
  split at hr
  · exact callF_sub hs h hr
  · exact roundA_mono h hr
  · cases hr
theorem exec_sub {ft ft' : FT} (hs : Sub ft ft') : ∀ n, ELe (exec ft n) (exec ft' n) := by
  intro n
  induction n with
  | zero => intro c e H r h; simp [exec] at h
  | succ n ih =>
    intro c e H r h
    rw [exec.eq_def] at h ⊢
    simp only at h ⊢
    cases c with
    | skip => exact h
    | exit id => exact h
    | ret => exact h
    | stop => exact h
    | rangeF f ps asg body =>
      simp only at h ⊢
      split at h
      rotate_left
      · cases h
      rename_i hg
      rw [if_pos (isGo_sub hs hg)]
      simp only [Option.bind_eq_some_iff] at h ⊢
      obtain ⟨p, hp, hr⟩ := h
      exact ⟨p, callV_sub hs ih _ _ _ _ hp, hr⟩
    | region os draw prs =>
      simp only at h ⊢
      split at h
      · rename_i hd
        rw [if_pos hd]
        simp only [Option.map_eq_some_iff] at h ⊢
        obtain ⟨p, hp, hr⟩ := h
        exact ⟨p, drawn_le (callV_sub hs ih) (fun f args H r => pureV_sub hs) hp, hr⟩
      · rename_i hd
        rw [if_neg hd]
        simp only [Option.map_eq_some_iff] at h ⊢
        obtain ⟨p, hp, hr⟩ := h
        exact ⟨p, opers_mono (callV_sub hs ih) _ _ _ _ hp, hr⟩
    | seq a b =>
      simp only [Option.bind_eq_some_iff] at h ⊢
      obtain ⟨⟨x, e1, H1⟩, hp, hr⟩ := h
      refine ⟨(x, e1, H1), ih _ _ _ _ hp, ?_⟩
      cases x with
      | normal => exact ih _ _ _ _ hr
      | exit id => exact hr
      | ret => exact hr
    | cond o a b =>
      simp only [Option.bind_eq_some_iff] at h ⊢
      obtain ⟨t, ht, hr⟩ := h
      refine ⟨t, ht, ?_⟩
      cases t with
      | true => exact ih _ _ _ _ hr
      | false => exact ih _ _ _ _ hr
    | block id c =>
      simp only [Option.map_eq_some_iff] at h ⊢
      obtain ⟨p, hp, hr⟩ := h
      exact ⟨p, ih _ _ _ _ hp, hr⟩
    | loop c =>
      simp only [Option.bind_eq_some_iff] at h ⊢
      obtain ⟨⟨x, e1, H1⟩, hp, hr⟩ := h
      refine ⟨(x, e1, H1), ih _ _ _ _ hp, ?_⟩
      cases x with
      | normal => exact ih _ _ _ _ hr
      | exit id => exact hr
      | ret => exact hr
/-- A TABLE OF WHICH MORE IS KNOWN TELLS THE SAME. -/
theorem callL_sub {ft ft' : FT} (hs : Sub ft ft') {f : AV} {args : List AV} {H : Heap} {r : AV × Heap} (h : callL ft f args H = some r) : callL ft' f args H = some r := by
  obtain ⟨n, hn⟩ := callL_some.1 h
  exact callL_some.2 ⟨n, callV_sub hs (exec_sub hs n) _ _ _ _ hn⟩
/-- A call of a function with a body, of finished things alone, as a primitive. -/
noncomputable def goP (ft : FT) (k : FuncId) (args : List AV) : Option AV := if closedL args = true then (callL ft (.fn (.func k) [] []) args Heap.empty).map (·.1) else none
theorem goP_ok {P : Program} (hP : P.follows .mixedOrders = true) {ft : FT} (hft : FTOk P ft) {k : FuncId} (hk : ∃ n rs body, ft k = some (.go true n rs body)) : PPrimOk P k (goP ft k) := by
  intro args r h m F H w vs hI hl hv
  unfold goP at h
  split at h
  rotate_left
  · cases h
  rename_i hc
  simp only [Option.map_eq_some_iff] at h
  obtain ⟨⟨r', H'⟩, h, rfl⟩ := h
  obtain ⟨n, hn⟩ := callL_some.1 h
  obtain ⟨nt, rs, body, hk⟩ := hk
  have hpv : pureV ft (.fn (.func k) [] []) args = some (false, []) := by
    unfold pureV isPure
    simp only [List.nil_append, List.append_nil, hk, if_true, sids_closed hc]
    rfl
  have hcp := (execs_next (ft := ft) n).2
  have h3 : callV ft (exec ft n) (.fn (.func k) [] []) args H = some (r', H) := by
    obtain ⟨H3, h3, _, h4⟩ := hcp.1 _ _ _ _ _ _ _ hpv hn H (fun _ h => by cases h)
    obtain ⟨_, rfl⟩ := h4 rfl
    exact h3
  have h4 : callF ft (exec ft n) k args H = some (r', H) := by simpa [callV] using h3
  have hcf : CfOk P (callV ft (exec ft n)) := calls_of hft (fun c ac hc e e' H H' x h ro hro b0 m F w a hs hb0 hd => (exec_sound hP hft n c ac hc e e' H H' x h ro hro b0 m F w a hs hb0 hd).1)
  rcases hcf _ _ H H r' h3 m F w (.func (.func k) #[] #[]) vs hI (.fz (.fn rfl rfl (by simp) (by simp))) ⟨hl, fun i c hc => .fz (hv i c hc)⟩ with ⟨k', f', c', he, hcase⟩ | ⟨_, _, _, _, _, he, _⟩
  rotate_left
  · cases he
  cases he
  simp only [Array.empty_append, Array.append_empty] at hcase
  exact hcase
end Go.VI

set_option linter.unusedVariables false
set_option linter.unusedSimpArgs false
namespace Go.VI
/-- What Clone tells, where nobody writes it. -/
def cloF (sz b : Nat) (args : List AV) : Option AV :=
  match args with
  | [.lst []] => some (.lst [])
  | [.lst ((c :: cs) :: r)] => if (r.length + 1) * b ≤ 140737488355328 ∧ allSz sz ((c :: cs) :: r) = true then some (.lst ((c :: cs) :: r)) else none
  | _ => none
theorem cloF_sl {ft : FT} {sz b : Nat} {z : List AV} : SlD ft 8 [.tmp 2] (cloC sz b z) (cloF sz b) := by
  intro args r h
  unfold cloF at h
  split at h
  · cases h
    exact clo_dx (sz := sz) (b := b) ⟨⟨_, rfl⟩, ⟨_, rfl⟩⟩
  · split at h
    rotate_left
    · cases h
    rename_i c cs rr hc
    cases h
    refine clo_dx (sz := sz) (b := b) ⟨_, rfl, by simp, by simpa using hc.1, hc.2, ?_⟩
    have e := frz_sl 23 (hx Heap.empty [.dead, .row false sz ((c :: cs) :: rr)]) 1 0 (List.length ((c :: cs) :: rr))
    have hg : (hx Heap.empty [.dead, .row false sz ((c :: cs) :: rr)]).get 1 = some (.row false sz ((c :: cs) :: rr)) := rfl
    rw [hg] at e
    simp only [Nat.zero_add, Nat.le_refl, if_true, List.drop_zero, List.take_length] at e
    exact ⟨_, e⟩
  · cases h
theorem cloF_ok {P : Program} (hP : P.follows .mixedOrders = true) {k : FuncId} {sz b : Nat} {z : List AV} (hg : GoFn P k 8 [.tmp 2] (cloC sz b z)) : PPrimOk P k (cloF sz b) := slD_ok hP ft0_ok hg cloF_sl
end Go.VI

set_option linter.unusedVariables false
set_option maxRecDepth 100000
namespace Go.VI
def c4L0 : ACode := (.seq (.region [⟨(some 63), (.bin .lss 3 (.tmp 62) (.tmp 61)), none⟩] false []) (.seq (.cond (.tmp 63) .skip (.exit 0)) (.seq (.block 1 (.seq (.region [⟨(some 64), (.iaddr none 4 (.tmp 60) (.tmp 62)), none⟩, ⟨(some 65), (.load true 4 (.tmp 64)), none⟩, ⟨(some 12), (.alloc [(.sc (.slice none 0 0)), (.sc (.bool false)), (.sc (.slice none 0 0)), (.sc (.slice none 0 0))]), none⟩, ⟨none, (.store 4 (.tmp 12) (.tmp 65)), none⟩] false []) (.seq (.region [⟨(some 66), (.mov (.tmp 8)), none⟩, ⟨(some 67), (.faddr 1 (.tmp 12)), none⟩, ⟨(some 68), (.load true 3 (.tmp 67)), none⟩, ⟨(some 69), (.call (.func 26) [(.tmp 66), (.tmp 68)]), none⟩, ⟨(some 70), (.un .not (.tmp 69)), none⟩] false []) (.cond (.tmp 70) (.seq (.region [⟨(some 6), (.mov (.const (.bool false))), none⟩] false []) .ret) .skip)))) (.region [⟨(some 71), (.bin .add 3 (.tmp 62) (.const (.int .i64 1))), none⟩, ⟨(some 62), (.mov (.tmp 71)), none⟩] false []))))
def c4R1 : ACode := (.seq (.region [⟨(some 72), (.call (.func 19) []), none⟩, ⟨(some 73), (.mov (.tmp 72)), none⟩, ⟨(some 74), (.mov (.tmp 10)), (some ((some 73), true))⟩, ⟨(some 75), (.len 0 (.tmp 74)), (some ((some 73), true))⟩, ⟨(some 76), (.bin .leq 3 (.tmp 75) (.const (.int .i64 3))), (some ((some 73), true))⟩, ⟨(some 77), (.pick (.tmp 73) (.tmp 76) (.const (.bool false))), none⟩, ⟨(some 6), (.mov (.tmp 77)), none⟩] false []) .ret)
def c4 : ACode := (.seq (.region [⟨(some 3), (.box 3 (.tmp 0)), none⟩, ⟨(some 4), (.box 4 (.tmp 1)), none⟩, ⟨(some 5), (.box 3 (.tmp 2)), none⟩, ⟨(some 6), (.mov (.const (.bool false))), none⟩] false []) (.seq (.region [⟨(some 13), (.iaddr (some 3) 1 (.tmp 5) (.const (.int .i64 0))), none⟩, ⟨(some 14), (.load false 1 (.tmp 13)), none⟩, ⟨(some 15), (.iaddr (some 3) 1 (.tmp 5) (.const (.int .i64 1))), none⟩, ⟨(some 16), (.load false 1 (.tmp 15)), none⟩, ⟨(some 7), (.mov (.tmp 14)), none⟩, ⟨(some 8), (.mov (.tmp 16)), none⟩] true []) (.seq (.seq (.region [⟨(some 17), (.mov (.tmp 7)), none⟩, ⟨(some 18), (.load true 3 (.tmp 3)), none⟩, ⟨(some 19), (.call (.func 29) [(.tmp 17), (.tmp 18)]), none⟩, ⟨(some 20), (.un .not (.tmp 19)), none⟩, ⟨(some 21), (.mov (.tmp 20)), none⟩, ⟨(some 22), (.mov (.tmp 7)), (some ((some 21), false))⟩, ⟨(some 23), (.bin .lss 3 (.tmp 22) (.const (.int .i64 1))), (some ((some 21), false))⟩, ⟨(some 24), (.pick (.tmp 21) (.const (.bool true)) (.tmp 23)), none⟩, ⟨(some 25), (.mov (.tmp 24)), none⟩, ⟨(some 26), (.mov (.tmp 7)), (some ((some 25), false))⟩, ⟨(some 27), (.mov (.tmp 8)), (some ((some 25), false))⟩, ⟨(some 28), (.bin .gtr 3 (.tmp 26) (.tmp 27)), (some ((some 25), false))⟩, ⟨(some 29), (.pick (.tmp 25) (.const (.bool true)) (.tmp 28)), none⟩, ⟨(some 30), (.mov (.tmp 29)), none⟩, ⟨(some 31), (.mov (.tmp 8)), (some ((some 30), false))⟩, ⟨(some 32), (.bin .gtr 3 (.tmp 31) (.const (.int .i64 3))), (some ((some 30), false))⟩, ⟨(some 33), (.pick (.tmp 30) (.const (.bool true)) (.tmp 32)), none⟩, ⟨(some 34), (.mov (.tmp 33)), none⟩, ⟨(some 35), (.mov (.tmp 7)), (some ((some 34), false))⟩, ⟨(some 36), (.load true 4 (.tmp 4)), (some ((some 34), false))⟩, ⟨(some 37), (.call (.func 30) [(.tmp 35), (.tmp 36)]), (some ((some 34), false))⟩, ⟨(some 38), (.un .not (.tmp 37)), (some ((some 34), false))⟩, ⟨(some 39), (.pick (.tmp 34) (.const (.bool true)) (.tmp 38)), none⟩] false []) (.cond (.tmp 39) (.seq (.region [⟨(some 40), (.call (.func 19) []), none⟩, ⟨(some 6), (.mov (.tmp 40)), none⟩] false []) .ret) .skip)) (.seq (.region [⟨(some 41), (.load true 3 (.tmp 3)), none⟩, ⟨(some 42), (.call (.func 20) [(.tmp 41)]), none⟩, ⟨(some 9), (.alloc [(.sc (.bool false)), (.sc (.slice none 0 0)), (.sc (.slice none 0 0))]), none⟩, ⟨none, (.store 3 (.tmp 9) (.tmp 42)), none⟩] false []) (.seq (.seq (.region [⟨(some 43), (.faddr 0 (.tmp 3)), none⟩, ⟨(some 44), (.load false 1 (.tmp 43)), none⟩] false []) (.cond (.tmp 44) (.region [⟨(some 45), (.load true 3 (.tmp 9)), none⟩, ⟨(some 46), (.load true 4 (.tmp 4)), none⟩, ⟨(some 47), (.call (.func 31) [(.tmp 45), (.tmp 46)]), none⟩, ⟨none, (.store 3 (.tmp 9) (.tmp 47)), none⟩] false []) (.region [⟨(some 48), (.load true 3 (.tmp 9)), none⟩, ⟨(some 49), (.faddr 2 (.tmp 3)), none⟩, ⟨(some 50), (.load false 1 (.tmp 49)), none⟩, ⟨(some 51), (.len 0 (.tmp 50)), none⟩, ⟨(some 52), (.faddr 0 (.tmp 4)), none⟩, ⟨(some 53), (.load false 1 (.tmp 52)), none⟩, ⟨(some 54), (.build [(.sc (.slice none 0 0)), (.sc (.int .i64 0))] [(0, (1, (.tmp 53))), (1, (1, (.const (.int .i64 2))))]), none⟩, ⟨(some 55), (.bslice 2 [(.sc (.slice none 0 0)), (.sc (.int .i64 0))] 1 [(0, (.tmp 54))]), none⟩, ⟨(some 56), (.call (.func 32) [(.tmp 48), (.tmp 51), (.const (.int .i64 0)), (.tmp 55)]), none⟩, ⟨none, (.store 3 (.tmp 9) (.tmp 56)), none⟩] false []))) (.seq (.region [⟨(some 57), (.mov (.tmp 8)), none⟩, ⟨(some 58), (.load true 3 (.tmp 9)), none⟩, ⟨(some 59), (.call (.func 21) [(.tmp 57), (.tmp 58)]), none⟩, ⟨(some 10), (.mov (.tmp 59)), none⟩] false []) (.seq (.seq (.region [⟨(some 60), (.mov (.tmp 10)), none⟩, ⟨(some 61), (.len 0 (.tmp 60)), none⟩, ⟨(some 62), (.mov (.const (.int .i64 0))), none⟩] false []) (.block 0 (.loop c4L0))) c4R1)))))))
def r4 : List ARes := [(.tmp 6)]
def c19L0 : ACode := (.seq (.region [⟨(some 12), (.bin .lss 3 (.tmp 11) (.const (.int .i64 7))), none⟩] false []) (.seq (.cond (.tmp 12) .skip (.exit 0)) (.seq (.block 1 (.seq (.region [⟨(some 13), (.mov (.tmp 11)), none⟩, ⟨(some 2), (.mov (.tmp 13)), none⟩] false []) (.region [⟨(some 14), (.load true 3 (.tmp 1)), none⟩, ⟨(some 15), (.mov (.tmp 2)), none⟩, ⟨(some 16), (.bin .add 3 (.const (.int .i64 48)) (.tmp 15)), none⟩, ⟨(some 17), (.conv .u8 (.tmp 16)), none⟩, ⟨(some 18), (.bslice 1 [(.sc (.int .u8 0))] 5 [(0, (.const (.int .u8 97))), (1, (.const (.int .u8 98))), (2, (.const (.int .u8 99))), (3, (.const (.int .u8 100))), (4, (.tmp 17))]), none⟩, ⟨(some 19), (.mkslice 1 1 [(.sc (.int .u8 0))] (.const (.int .i64 31)) (.const (.int .i64 31))), none⟩, ⟨(some 20), (.call (.func 75) [(.tmp 18), (.tmp 19)]), none⟩, ⟨(some 21), (.call (.func 31) [(.tmp 14), (.tmp 20)]), none⟩, ⟨none, (.store 3 (.tmp 1) (.tmp 21)), none⟩] true [(0, 4), (0, 5), (4, 5), (0, 6)]))) (.region [⟨(some 22), (.bin .add 3 (.tmp 11) (.const (.int .i64 1))), none⟩, ⟨(some 11), (.mov (.tmp 22)), none⟩] false []))))
def c19R1 : ACode := (.seq (.region [⟨(some 23), (.load true 3 (.tmp 1)), none⟩, ⟨(some 24), (.call (.func 21) [(.const (.int .i64 1)), (.tmp 23)]), none⟩, ⟨(some 3), (.mov (.tmp 24)), none⟩] false []) (.seq (.region [⟨(some 26), (.load true 3 (.tmp 1)), none⟩, ⟨(some 27), (.bslice 1 [(.sc (.int .u8 0))] 5 [(0, (.const (.int .u8 97))), (1, (.const (.int .u8 98))), (2, (.const (.int .u8 99))), (3, (.const (.int .u8 100))), (4, (.const (.int .u8 51)))]), none⟩, ⟨(some 28), (.stringish (.tmp 27)), none⟩, ⟨(some 29), (.call (.func 76) [(.tmp 26), (.tmp 28)]), none⟩, ⟨(some 25), (.mov (.tmp 29)), none⟩, ⟨(some 30), (.ext (.tmp 25) 0), none⟩, ⟨(some 31), (.ext (.tmp 25) 1), none⟩, ⟨(some 4), (.mov (.tmp 30)), none⟩, ⟨(some 5), (.mov (.tmp 31)), none⟩] false []) (.seq (.region [⟨(some 33), (.load true 3 (.tmp 1)), none⟩, ⟨(some 34), (.bslice 1 [(.sc (.int .u8 0))] 5 [(0, (.const (.int .u8 97))), (1, (.const (.int .u8 98))), (2, (.const (.int .u8 99))), (3, (.const (.int .u8 100))), (4, (.const (.int .u8 51)))]), none⟩, ⟨(some 35), (.stringish (.tmp 34)), none⟩, ⟨(some 36), (.call (.func 77) [(.tmp 33), (.tmp 35)]), none⟩, ⟨(some 32), (.mov (.tmp 36)), none⟩, ⟨(some 37), (.ext (.tmp 32) 0), none⟩, ⟨(some 38), (.ext (.tmp 32) 1), none⟩, ⟨(some 6), (.alloc [(.sc (.bool false)), (.sc (.slice none 0 0)), (.sc (.slice none 0 0))]), none⟩, ⟨none, (.store 3 (.tmp 6) (.tmp 37)), none⟩, ⟨(some 7), (.mov (.tmp 38)), none⟩] false []) (.seq (.region [⟨(some 39), (.build [(.sc (.slice none 0 0)), (.sc (.int .i64 0))] [(1, (1, (.const (.int .i64 2))))]), none⟩, ⟨(some 40), (.bslice 1 [(.sc (.int .u8 0))] 1 [(0, (.const (.int .u8 109)))]), none⟩, ⟨(some 41), (.stringish (.tmp 40)), none⟩, ⟨(some 42), (.build [(.sc (.slice none 0 0)), (.sc (.int .i64 0))] [(0, (1, (.tmp 41))), (1, (1, (.const (.int .i64 3))))]), none⟩, ⟨(some 43), (.bslice 2 [(.sc (.slice none 0 0)), (.sc (.int .i64 0))] 2 [(0, (.tmp 39)), (1, (.tmp 42))]), none⟩, ⟨(some 44), (.build [(.sc (.bool false)), (.sc (.slice none 0 0)), (.sc (.slice none 0 0))] [(2, (1, (.tmp 43)))]), none⟩, ⟨(some 8), (.alloc [(.sc (.bool false)), (.sc (.slice none 0 0)), (.sc (.slice none 0 0))]), none⟩, ⟨none, (.store 3 (.tmp 8) (.tmp 44)), none⟩] false []) (.seq (.region [⟨(some 45), (.load true 3 (.tmp 8)), none⟩, ⟨(some 46), (.bslice 1 [(.sc (.int .u8 0))] 1 [(0, (.const (.int .u8 110)))]), none⟩, ⟨(some 47), (.stringish (.tmp 46)), none⟩, ⟨(some 48), (.build [(.sc (.slice none 0 0)), (.sc (.int .i64 0))] [(0, (1, (.tmp 47))), (1, (1, (.const (.int .i64 4))))]), none⟩, ⟨(some 49), (.bslice 2 [(.sc (.slice none 0 0)), (.sc (.int .i64 0))] 1 [(0, (.tmp 48))]), none⟩, ⟨(some 50), (.call (.func 32) [(.tmp 45), (.const (.int .i64 1)), (.const (.int .i64 1)), (.tmp 49)]), none⟩, ⟨(some 9), (.alloc [(.sc (.bool false)), (.sc (.slice none 0 0)), (.sc (.slice none 0 0))]), none⟩, ⟨none, (.store 3 (.tmp 9) (.tmp 50)), none⟩] false []) (.seq (.region [⟨(some 51), (.mov (.tmp 3)), none⟩, ⟨(some 52), (.len 0 (.tmp 51)), none⟩, ⟨(some 53), (.bin .eql 3 (.tmp 52) (.const (.int .i64 2))), none⟩, ⟨(some 54), (.mov (.tmp 53)), none⟩, ⟨(some 55), (.mov (.tmp 3)), (some ((some 54), true))⟩, ⟨(some 56), (.iaddr none 4 (.tmp 55) (.const (.int .i64 0))), (some ((some 54), true))⟩, ⟨(some 57), (.faddr 1 (.tmp 56)), (some ((some 54), true))⟩, ⟨(some 58), (.faddr 1 (.tmp 57)), (some ((some 54), true))⟩, ⟨(some 59), (.load false 1 (.tmp 58)), (some ((some 54), true))⟩, ⟨(some 60), (.len 0 (.tmp 59)), (some ((some 54), true))⟩, ⟨(some 61), (.bin .eql 3 (.tmp 60) (.const (.int .i64 4))), (some ((some 54), true))⟩, ⟨(some 62), (.pick (.tmp 54) (.tmp 61) (.const (.bool false))), none⟩, ⟨(some 63), (.mov (.tmp 62)), none⟩, ⟨(some 64), (.mov (.tmp 3)), (some ((some 63), true))⟩, ⟨(some 65), (.iaddr none 4 (.tmp 64) (.const (.int .i64 1))), (some ((some 63), true))⟩, ⟨(some 66), (.faddr 1 (.tmp 65)), (some ((some 63), true))⟩, ⟨(some 67), (.faddr 1 (.tmp 66)), (some ((some 63), true))⟩, ⟨(some 68), (.load false 1 (.tmp 67)), (some ((some 63), true))⟩, ⟨(some 69), (.len 0 (.tmp 68)), (some ((some 63), true))⟩, ⟨(some 70), (.bin .eql 3 (.tmp 69) (.const (.int .i64 3))), (some ((some 63), true))⟩, ⟨(some 71), (.pick (.tmp 63) (.tmp 70) (.const (.bool false))), none⟩, ⟨(some 72), (.mov (.tmp 71)), none⟩, ⟨(some 73), (.mov (.tmp 3)), (some ((some 72), true))⟩, ⟨(some 74), (.iaddr none 4 (.tmp 73) (.const (.int .i64 1))), (some ((some 72), true))⟩, ⟨(some 75), (.faddr 0 (.tmp 74)), (some ((some 72), true))⟩, ⟨(some 76), (.load false 1 (.tmp 75)), (some ((some 72), true))⟩, ⟨(some 77), (.tostr (.tmp 76)), (some ((some 72), true))⟩, ⟨(some 78), (.bin .eql 9 (.tmp 77) (.const (.string ⟨#[97, 98, 99, 100, 52]⟩))), (some ((some 72), true))⟩, ⟨(some 79), (.pick (.tmp 72) (.tmp 78) (.const (.bool false))), none⟩, ⟨(some 80), (.mov (.tmp 79)), none⟩, ⟨(some 81), (.mov (.tmp 4)), (some ((some 80), true))⟩, ⟨(some 82), (.bin .eql 3 (.tmp 81) (.const (.int .i64 3))), (some ((some 80), true))⟩, ⟨(some 83), (.pick (.tmp 80) (.tmp 82) (.const (.bool false))), none⟩, ⟨(some 84), (.mov (.tmp 83)), none⟩, ⟨(some 85), (.mov (.tmp 5)), (some ((some 84), true))⟩, ⟨(some 86), (.pick (.tmp 84) (.tmp 85) (.const (.bool false))), none⟩, ⟨(some 87), (.mov (.tmp 86)), none⟩, ⟨(some 88), (.mov (.tmp 7)), (some ((some 87), true))⟩, ⟨(some 89), (.pick (.tmp 87) (.tmp 88) (.const (.bool false))), none⟩, ⟨(some 90), (.mov (.tmp 89)), none⟩, ⟨(some 91), (.faddr 1 (.tmp 6)), (some ((some 90), true))⟩, ⟨(some 92), (.load false 1 (.tmp 91)), (some ((some 90), true))⟩, ⟨(some 93), (.len 0 (.tmp 92)), (some ((some 90), true))⟩, ⟨(some 94), (.bin .eql 3 (.tmp 93) (.const (.int .i64 6))), (some ((some 90), true))⟩, ⟨(some 95), (.pick (.tmp 90) (.tmp 94) (.const (.bool false))), none⟩, ⟨(some 96), (.mov (.tmp 95)), none⟩, ⟨(some 97), (.load true 3 (.tmp 8)), (some ((some 96), true))⟩, ⟨(some 98), (.bslice 1 [(.sc (.int .u8 0))] 1 [(0, (.const (.int .u8 122)))]), (some ((some 96), true))⟩, ⟨(some 99), (.stringish (.tmp 98)), (some ((some 96), true))⟩, ⟨(some 100), (.call (.func 78) [(.tmp 97), (.tmp 99)]), (some ((some 96), true))⟩, ⟨(some 101), (.bin .eql 3 (.tmp 100) (.const (.int .i64 1))), (some ((some 96), true))⟩, ⟨(some 102), (.pick (.tmp 96) (.tmp 101) (.const (.bool false))), none⟩, ⟨(some 103), (.mov (.tmp 102)), none⟩, ⟨(some 104), (.load true 3 (.tmp 8)), (some ((some 103), true))⟩, ⟨(some 105), (.call (.func 79) [(.const (.int .i64 2)), (.tmp 104)]), (some ((some 103), true))⟩, ⟨(some 106), (.pick (.tmp 103) (.tmp 105) (.const (.bool false))), none⟩, ⟨(some 107), (.mov (.tmp 106)), none⟩, ⟨(some 108), (.faddr 2 (.tmp 9)), (some ((some 107), true))⟩, ⟨(some 109), (.load false 1 (.tmp 108)), (some ((some 107), true))⟩, ⟨(some 110), (.len 0 (.tmp 109)), (some ((some 107), true))⟩, ⟨(some 111), (.bin .eql 3 (.tmp 110) (.const (.int .i64 2))), (some ((some 107), true))⟩, ⟨(some 112), (.pick (.tmp 107) (.tmp 111) (.const (.bool false))), none⟩, ⟨(some 113), (.mov (.tmp 112)), none⟩, ⟨(some 114), (.faddr 2 (.tmp 9)), (some ((some 113), true))⟩, ⟨(some 115), (.load false 1 (.tmp 114)), (some ((some 113), true))⟩, ⟨(some 116), (.iaddr none 2 (.tmp 115) (.const (.int .i64 1))), (some ((some 113), true))⟩, ⟨(some 117), (.faddr 1 (.tmp 116)), (some ((some 113), true))⟩, ⟨(some 118), (.load false 1 (.tmp 117)), (some ((some 113), true))⟩, ⟨(some 119), (.bin .eql 3 (.tmp 118) (.const (.int .i64 4))), (some ((some 113), true))⟩, ⟨(some 120), (.pick (.tmp 113) (.tmp 119) (.const (.bool false))), none⟩, ⟨(some 121), (.mov (.tmp 120)), none⟩, ⟨(some 122), (.load true 3 (.tmp 1)), (some ((some 121), true))⟩, ⟨(some 123), (.call (.func 80) [(.const (.int .i64 1)), (.tmp 122)]), (some ((some 121), true))⟩, ⟨(some 124), (.bin .eql 3 (.tmp 123) (.const (.int .i64 280))), (some ((some 121), true))⟩, ⟨(some 125), (.pick (.tmp 121) (.tmp 124) (.const (.bool false))), none⟩, ⟨(some 126), (.mov (.tmp 125)), none⟩, ⟨(some 127), (.load true 3 (.tmp 1)), (some ((some 126), true))⟩, ⟨(some 128), (.call (.func 26) [(.const (.int .i64 1)), (.tmp 127)]), (some ((some 126), true))⟩, ⟨(some 129), (.un .not (.tmp 128)), (some ((some 126), true))⟩, ⟨(some 130), (.pick (.tmp 126) (.tmp 129) (.const (.bool false))), none⟩, ⟨(some 131), (.mov (.tmp 130)), none⟩, ⟨(some 132), (.load true 3 (.tmp 8)), (some ((some 131), true))⟩, ⟨(some 133), (.call (.func 81) [(.const (.int .i64 1)), (.tmp 132)]), (some ((some 131), true))⟩, ⟨(some 134), (.pick (.tmp 131) (.tmp 133) (.const (.bool false))), none⟩, ⟨(some 135), (.mov (.tmp 134)), none⟩, ⟨(some 136), (.mov (.tmp 3)), (some ((some 135), true))⟩, ⟨(some 137), (.iaddr none 4 (.tmp 136) (.const (.int .i64 0))), (some ((some 135), true))⟩, ⟨(some 138), (.faddr 1 (.tmp 137)), (some ((some 135), true))⟩, ⟨(some 139), (.load true 3 (.tmp 138)), (some ((some 135), true))⟩, ⟨(some 140), (.mov (.tmp 3)), (some ((some 135), true))⟩, ⟨(some 141), (.iaddr none 4 (.tmp 140) (.const (.int .i64 1))), (some ((some 135), true))⟩, ⟨(some 142), (.faddr 1 (.tmp 141)), (some ((some 135), true))⟩, ⟨(some 143), (.load true 3 (.tmp 142)), (some ((some 135), true))⟩, ⟨(some 144), (.mov (.tmp 3)), (some ((some 135), true))⟩, ⟨(some 145), (.iaddr none 4 (.tmp 144) (.const (.int .i64 1))), (some ((some 135), true))⟩, ⟨(some 146), (.faddr 0 (.tmp 145)), (some ((some 135), true))⟩, ⟨(some 147), (.load false 1 (.tmp 146)), (some ((some 135), true))⟩, ⟨(some 148), (.call (.func 27) [(.tmp 139), (.tmp 143), (.tmp 147)]), (some ((some 135), true))⟩, ⟨(some 149), (.load true 3 (.tmp 1)), (some ((some 135), true))⟩, ⟨(some 150), (.call (.func 28) [(.tmp 148), (.tmp 149)]), (some ((some 135), true))⟩, ⟨(some 151), (.pick (.tmp 135) (.tmp 150) (.const (.bool false))), none⟩, ⟨(some 0), (.mov (.tmp 151)), none⟩] true [(46, 47), (97, 98)]) .ret))))))
def c19 : ACode := (.seq (.region [⟨(some 0), (.mov (.const (.bool false))), none⟩] false []) (.seq (.region [⟨(some 10), (.build [(.sc (.bool false)), (.sc (.slice none 0 0)), (.sc (.slice none 0 0))] [(0, (1, (.const (.bool true))))]), none⟩, ⟨(some 1), (.alloc [(.sc (.bool false)), (.sc (.slice none 0 0)), (.sc (.slice none 0 0))]), none⟩, ⟨none, (.store 3 (.tmp 1) (.tmp 10)), none⟩] false []) (.seq (.seq (.region [⟨(some 11), (.mov (.const (.int .i64 0))), none⟩] false []) (.block 0 (.loop c19L0))) c19R1)))
def r19 : List ARes := [(.tmp 0)]
def c20L0 : ACode := (.seq (.region [⟨(some 15), (.bin .lss 3 (.tmp 14) (.tmp 13)), none⟩] false []) (.seq (.cond (.tmp 15) .skip (.exit 0)) (.seq (.block 1 (.seq (.region [⟨(some 16), (.iaddr none 4 (.tmp 12) (.tmp 14)), none⟩, ⟨(some 17), (.load true 4 (.tmp 16)), none⟩, ⟨(some 5), (.alloc [(.sc (.slice none 0 0)), (.sc (.slice none 0 0)), (.sc (.int .i64 0)), (.sc (.int .i64 0))]), none⟩, ⟨none, (.store 4 (.tmp 5) (.tmp 17)), none⟩] false []) (.region [⟨(some 18), (.faddr 1 (.tmp 3)), none⟩, ⟨(some 19), (.load false 1 (.tmp 18)), none⟩, ⟨(some 20), (.load true 4 (.tmp 5)), none⟩, ⟨(some 21), (.bslice 4 [(.sc (.slice none 0 0)), (.sc (.slice none 0 0)), (.sc (.int .i64 0)), (.sc (.int .i64 0))] 1 [(0, (.tmp 20))]), none⟩, ⟨(some 22), (.app 4 64 (.tmp 19) (.tmp 21)), none⟩, ⟨(some 23), (.faddr 1 (.tmp 3)), none⟩, ⟨none, (.store 1 (.tmp 23) (.tmp 22)), none⟩] false []))) (.region [⟨(some 24), (.bin .add 3 (.tmp 14) (.const (.int .i64 1))), none⟩, ⟨(some 14), (.mov (.tmp 24)), none⟩] false []))))
def c20L1 : ACode := (.seq (.region [⟨(some 29), (.bin .lss 3 (.tmp 28) (.tmp 27)), none⟩] false []) (.seq (.cond (.tmp 29) .skip (.exit 2)) (.seq (.block 3 (.seq (.region [⟨(some 30), (.iaddr none 2 (.tmp 26) (.tmp 28)), none⟩, ⟨(some 31), (.load true 2 (.tmp 30)), none⟩, ⟨(some 7), (.alloc [(.sc (.slice none 0 0)), (.sc (.int .i64 0))]), none⟩, ⟨none, (.store 2 (.tmp 7) (.tmp 31)), none⟩] false []) (.region [⟨(some 32), (.faddr 2 (.tmp 3)), none⟩, ⟨(some 33), (.load false 1 (.tmp 32)), none⟩, ⟨(some 34), (.load true 2 (.tmp 7)), none⟩, ⟨(some 35), (.bslice 2 [(.sc (.slice none 0 0)), (.sc (.int .i64 0))] 1 [(0, (.tmp 34))]), none⟩, ⟨(some 36), (.app 2 32 (.tmp 33) (.tmp 35)), none⟩, ⟨(some 37), (.faddr 2 (.tmp 3)), none⟩, ⟨none, (.store 1 (.tmp 37) (.tmp 36)), none⟩] false []))) (.region [⟨(some 38), (.bin .add 3 (.tmp 28) (.const (.int .i64 1))), none⟩, ⟨(some 28), (.mov (.tmp 38)), none⟩] false []))))
def c20R2 : ACode := (.seq (.region [⟨(some 39), (.load true 3 (.tmp 3)), none⟩, ⟨none, (.store 3 (.tmp 2) (.tmp 39)), none⟩] false []) .ret)
def c20R3 : ACode := (.seq (.seq (.region [⟨(some 25), (.faddr 2 (.tmp 1)), none⟩, ⟨(some 26), (.load false 1 (.tmp 25)), none⟩, ⟨(some 27), (.len 0 (.tmp 26)), none⟩, ⟨(some 28), (.mov (.const (.int .i64 0))), none⟩] false []) (.block 2 (.loop c20L1))) c20R2)
def c20 : ACode := (.seq (.region [⟨(some 1), (.box 3 (.tmp 0)), none⟩, ⟨(some 2), (.alloc [(.sc (.bool false)), (.sc (.slice none 0 0)), (.sc (.slice none 0 0))]), none⟩] false []) (.seq (.region [⟨(some 8), (.faddr 0 (.tmp 1)), none⟩, ⟨(some 9), (.load false 1 (.tmp 8)), none⟩, ⟨(some 10), (.build [(.sc (.bool false)), (.sc (.slice none 0 0)), (.sc (.slice none 0 0))] [(0, (1, (.tmp 9)))]), none⟩, ⟨(some 3), (.alloc [(.sc (.bool false)), (.sc (.slice none 0 0)), (.sc (.slice none 0 0))]), none⟩, ⟨none, (.store 3 (.tmp 3) (.tmp 10)), none⟩] false []) (.seq (.seq (.region [⟨(some 11), (.faddr 1 (.tmp 1)), none⟩, ⟨(some 12), (.load false 1 (.tmp 11)), none⟩, ⟨(some 13), (.len 0 (.tmp 12)), none⟩, ⟨(some 14), (.mov (.const (.int .i64 0))), none⟩] false []) (.block 0 (.loop c20L0))) c20R3)))
def r20 : List ARes := [(.cell 2 true 3)]
def c21 : ACode := (.seq (.region [⟨(some 2), (.box 1 (.tmp 0)), none⟩, ⟨(some 3), (.box 3 (.tmp 1)), none⟩, ⟨(some 4), (.mov (.const (.slice none 0 0))), none⟩] false []) (.seq (.region [⟨(some 5), (.alloc [(.sc (.slice none 0 0))]), none⟩] false []) (.seq (.region [⟨(some 6), (.alloc [(.sc .nilFunc)]), none⟩] false []) (.seq (.region [⟨(some 7), (.mkfn (.func 82) [] [(.tmp 2), (.tmp 5), (.tmp 6)]), none⟩, ⟨none, (.store 1 (.tmp 6) (.tmp 7)), none⟩] false []) (.seq (.region [⟨(some 8), (.load false 1 (.tmp 6)), none⟩, ⟨(some 9), (.load true 3 (.tmp 3)), none⟩, ⟨(some 10), (.build [(.sc (.slice none 0 0)), (.sc (.bool false)), (.sc (.slice none 0 0)), (.sc (.slice none 0 0))] [(1, (3, (.tmp 9)))]), none⟩, ⟨(some 11), (.call (.tmp 8) [(.tmp 10)]), none⟩] false []) (.seq (.region [⟨(some 12), (.load false 1 (.tmp 5)), none⟩, ⟨(some 4), (.mov (.tmp 12)), none⟩] false []) .ret))))))
def r21 : List ARes := [(.tmp 4)]
def c23 : ACode := (.seq (.region [⟨(some 4), (.mov (.const (.bool false))), none⟩] false []) (.seq (.region [⟨(some 5), (.mov (.tmp 0)), none⟩, ⟨(some 6), (.tostr (.tmp 5)), none⟩, ⟨(some 7), (.mov (.tmp 1)), none⟩, ⟨(some 8), (.tostr (.tmp 7)), none⟩, ⟨(some 9), (.bin .eql 9 (.tmp 6) (.tmp 8)), none⟩, ⟨(some 4), (.mov (.tmp 9)), none⟩] false []) .ret))
def r23 : List ARes := [(.tmp 4)]
def c26 : ACode := (.seq (.region [⟨(some 3), (.box 3 (.tmp 1)), none⟩, ⟨(some 4), (.mov (.const (.bool false))), none⟩] false []) (.seq (.region [⟨(some 5), (.mov (.tmp 0)), none⟩, ⟨(some 6), (.load true 3 (.tmp 3)), none⟩, ⟨(some 7), (.call (.func 80) [(.tmp 5), (.tmp 6)]), none⟩, ⟨(some 8), (.mov (.tmp 0)), none⟩, ⟨(some 9), (.call (.func 90) [(.tmp 8)]), none⟩, ⟨(some 10), (.bin .leq 3 (.tmp 7) (.tmp 9)), none⟩, ⟨(some 4), (.mov (.tmp 10)), none⟩] false []) .ret))
def r26 : List ARes := [(.tmp 4)]
def c27 : ACode := (.seq (.region [⟨(some 3), (.box 3 (.tmp 0)), none⟩, ⟨(some 4), (.box 3 (.tmp 1)), none⟩, ⟨(some 6), (.alloc [(.sc (.bool false)), (.sc (.slice none 0 0)), (.sc (.slice none 0 0))]), none⟩] false []) (.seq (.region [⟨(some 8), (.faddr 2 (.tmp 4)), none⟩, ⟨(some 9), (.load false 1 (.tmp 8)), none⟩, ⟨(some 10), (.call (.func 91) [(.tmp 9)]), none⟩, ⟨(some 7), (.mov (.tmp 10)), none⟩] false []) (.seq (.seq (.region [⟨(some 11), (.mov (.tmp 7)), none⟩, ⟨(some 12), (.len 0 (.tmp 11)), none⟩, ⟨(some 13), (.bin .gtr 3 (.tmp 12) (.const (.int .i64 0))), none⟩] false []) (.cond (.tmp 13) (.region [⟨(some 14), (.mov (.tmp 7)), none⟩, ⟨(some 15), (.mov (.tmp 2)), none⟩, ⟨(some 16), (.call (.func 92) [(.tmp 15)]), none⟩, ⟨(some 17), (.iaddr none 2 (.tmp 14) (.const (.int .i64 0))), none⟩, ⟨(some 18), (.faddr 0 (.tmp 17)), none⟩, ⟨none, (.store 1 (.tmp 18) (.tmp 16)), none⟩] false []) .skip)) (.seq (.region [⟨(some 19), (.faddr 0 (.tmp 3)), none⟩, ⟨(some 20), (.load false 1 (.tmp 19)), none⟩, ⟨(some 21), (.faddr 1 (.tmp 3)), none⟩, ⟨(some 22), (.load false 1 (.tmp 21)), none⟩, ⟨(some 23), (.faddr 1 (.tmp 4)), none⟩, ⟨(some 24), (.load false 1 (.tmp 23)), none⟩, ⟨(some 25), (.bslice 1 [(.sc (.slice none 0 0))] 2 [(0, (.tmp 22)), (1, (.tmp 24))]), none⟩, ⟨(some 26), (.call (.func 93) [(.tmp 25)]), none⟩, ⟨(some 27), (.faddr 2 (.tmp 3)), none⟩, ⟨(some 28), (.load false 1 (.tmp 27)), none⟩, ⟨(some 29), (.mov (.tmp 7)), none⟩, ⟨(some 30), (.bslice 1 [(.sc (.slice none 0 0))] 2 [(0, (.tmp 28)), (1, (.tmp 29))]), none⟩, ⟨(some 31), (.call (.func 94) [(.tmp 30)]), none⟩, ⟨(some 32), (.build [(.sc (.bool false)), (.sc (.slice none 0 0)), (.sc (.slice none 0 0))] [(0, (1, (.tmp 20))), (1, (1, (.tmp 26))), (2, (1, (.tmp 31)))]), none⟩, ⟨none, (.store 3 (.tmp 6) (.tmp 32)), none⟩] true [(1, 6), (1, 7), (6, 9), (7, 9), (1, 11), (3, 11), (5, 11), (6, 11), (7, 11), (1, 12)]) .ret))))
def r27 : List ARes := [(.cell 6 true 3)]
def c28 : ACode := (.seq (.region [⟨(some 2), (.box 3 (.tmp 0)), none⟩, ⟨(some 3), (.box 3 (.tmp 1)), none⟩, ⟨(some 4), (.mov (.const (.bool false))), none⟩] false []) (.seq (.region [⟨(some 5), (.mov (.func 95)), none⟩] false []) (.seq (.region [⟨(some 6), (.faddr 0 (.tmp 2)), none⟩, ⟨(some 7), (.load false 1 (.tmp 6)), none⟩, ⟨(some 8), (.faddr 0 (.tmp 3)), none⟩, ⟨(some 9), (.load false 1 (.tmp 8)), none⟩, ⟨(some 10), (.eqb false (.tmp 7) (.tmp 9)), none⟩, ⟨(some 11), (.mov (.tmp 10)), none⟩, ⟨(some 12), (.faddr 1 (.tmp 2)), (some ((some 11), true))⟩, ⟨(some 13), (.load false 1 (.tmp 12)), (some ((some 11), true))⟩, ⟨(some 14), (.faddr 1 (.tmp 3)), (some ((some 11), true))⟩, ⟨(some 15), (.load false 1 (.tmp 14)), (some ((some 11), true))⟩, ⟨(some 16), (.call (.func 96) [(.tmp 13), (.tmp 15), (.func 97)]), (some ((some 11), true))⟩, ⟨(some 17), (.pick (.tmp 11) (.tmp 16) (.const (.bool false))), none⟩, ⟨(some 18), (.mov (.tmp 17)), none⟩, ⟨(some 19), (.faddr 2 (.tmp 2)), (some ((some 18), true))⟩, ⟨(some 20), (.load false 1 (.tmp 19)), (some ((some 18), true))⟩, ⟨(some 21), (.faddr 2 (.tmp 3)), (some ((some 18), true))⟩, ⟨(some 22), (.load false 1 (.tmp 21)), (some ((some 18), true))⟩, ⟨(some 23), (.mov (.tmp 5)), (some ((some 18), true))⟩, ⟨(some 24), (.call (.func 98) [(.tmp 20), (.tmp 22), (.tmp 23)]), (some ((some 18), true))⟩, ⟨(some 25), (.pick (.tmp 18) (.tmp 24) (.const (.bool false))), none⟩, ⟨(some 4), (.mov (.tmp 25)), none⟩] false []) .ret)))
def r28 : List ARes := [(.tmp 4)]
def c29L0 : ACode := (.seq (.seq (.region [⟨(some 22), (.mov (.tmp 5)), none⟩, ⟨(some 23), (.faddr 1 (.tmp 3)), none⟩, ⟨(some 24), (.load false 1 (.tmp 23)), none⟩, ⟨(some 25), (.len 0 (.tmp 24)), none⟩, ⟨(some 26), (.bin .lss 3 (.tmp 22) (.tmp 25)), none⟩] false []) (.cond (.tmp 26) .skip (.exit 0))) (.seq (.block 1 (.seq (.region [⟨(some 29), (.mov (.tmp 0)), none⟩, ⟨(some 30), (.faddr 1 (.tmp 3)), none⟩, ⟨(some 31), (.load false 1 (.tmp 30)), none⟩, ⟨(some 32), (.mov (.tmp 5)), none⟩, ⟨(some 33), (.iaddr none 4 (.tmp 31) (.tmp 32)), none⟩, ⟨(some 34), (.load true 4 (.tmp 33)), none⟩, ⟨(some 35), (.call (.func 30) [(.tmp 29), (.tmp 34)]), none⟩, ⟨(some 36), (.un .not (.tmp 35)), none⟩, ⟨(some 37), (.mov (.tmp 36)), none⟩, ⟨(some 38), (.mov (.tmp 5)), (some ((some 37), false))⟩, ⟨(some 39), (.bin .gtr 3 (.tmp 38) (.const (.int .i64 0))), (some ((some 37), false))⟩, ⟨(some 40), (.mov (.tmp 39)), (some ((some 37), false))⟩, ⟨(some 41), (.faddr 1 (.tmp 3)), (some ((some 40), true))⟩, ⟨(some 42), (.load false 1 (.tmp 41)), (some ((some 40), true))⟩, ⟨(some 43), (.mov (.tmp 5)), (some ((some 40), true))⟩, ⟨(some 44), (.bin .sub 3 (.tmp 43) (.const (.int .i64 1))), (some ((some 40), true))⟩, ⟨(some 45), (.iaddr none 4 (.tmp 42) (.tmp 44)), (some ((some 40), true))⟩, ⟨(some 46), (.faddr 0 (.tmp 45)), (some ((some 40), true))⟩, ⟨(some 47), (.load false 1 (.tmp 46)), (some ((some 40), true))⟩, ⟨(some 48), (.faddr 1 (.tmp 3)), (some ((some 40), true))⟩, ⟨(some 49), (.load false 1 (.tmp 48)), (some ((some 40), true))⟩, ⟨(some 50), (.mov (.tmp 5)), (some ((some 40), true))⟩, ⟨(some 51), (.iaddr none 4 (.tmp 49) (.tmp 50)), (some ((some 40), true))⟩, ⟨(some 52), (.faddr 0 (.tmp 51)), (some ((some 40), true))⟩, ⟨(some 53), (.load false 1 (.tmp 52)), (some ((some 40), true))⟩, ⟨(some 54), (.call (.func 89) [(.tmp 47), (.tmp 53)]), (some ((some 40), true))⟩, ⟨(some 55), (.bin .neq 3 (.tmp 54) (.const (.int .i64 (-1)))), (some ((some 40), true))⟩, ⟨(some 56), (.pick (.tmp 40) (.tmp 55) (.const (.bool false))), (some ((some 37), false))⟩, ⟨(some 57), (.pick (.tmp 37) (.const (.bool true)) (.tmp 56)), none⟩] true []) (.cond (.tmp 57) (.seq (.region [⟨(some 4), (.mov (.const (.bool false))), none⟩] false []) .ret) .skip))) (.region [⟨(some 27), (.mov (.tmp 5)), none⟩, ⟨(some 28), (.bin .add 3 (.tmp 27) (.const (.int .i64 1))), none⟩, ⟨(some 5), (.mov (.tmp 28)), none⟩] false [])))
def c29R1 : ACode := (.seq (.region [⟨(some 58), (.faddr 2 (.tmp 3)), none⟩, ⟨(some 59), (.load false 1 (.tmp 58)), none⟩, ⟨(some 60), (.len 0 (.tmp 59)), none⟩, ⟨(some 61), (.bin .eql 3 (.tmp 60) (.const (.int .i64 0))), none⟩, ⟨(some 4), (.mov (.tmp 61)), none⟩] false []) .ret)
def c29L2 : ACode := (.seq (.seq (.region [⟨(some 62), (.mov (.tmp 6)), none⟩, ⟨(some 63), (.faddr 2 (.tmp 3)), none⟩, ⟨(some 64), (.load false 1 (.tmp 63)), none⟩, ⟨(some 65), (.len 0 (.tmp 64)), none⟩, ⟨(some 66), (.bin .lss 3 (.tmp 62) (.tmp 65)), none⟩] false []) (.cond (.tmp 66) .skip (.exit 2))) (.seq (.block 3 (.seq (.region [⟨(some 69), (.faddr 2 (.tmp 3)), none⟩, ⟨(some 70), (.load false 1 (.tmp 69)), none⟩, ⟨(some 71), (.mov (.tmp 6)), none⟩, ⟨(some 72), (.iaddr none 2 (.tmp 70) (.tmp 71)), none⟩, ⟨(some 73), (.load true 2 (.tmp 72)), none⟩, ⟨(some 7), (.alloc [(.sc (.slice none 0 0)), (.sc (.int .i64 0))]), none⟩, ⟨none, (.store 2 (.tmp 7) (.tmp 73)), none⟩] false []) (.seq (.seq (.region [⟨(some 74), (.faddr 1 (.tmp 7)), none⟩, ⟨(some 75), (.load false 1 (.tmp 74)), none⟩, ⟨(some 76), (.bin .lss 3 (.tmp 75) (.const (.int .i64 2))), none⟩, ⟨(some 77), (.mov (.tmp 76)), none⟩, ⟨(some 78), (.faddr 1 (.tmp 7)), (some ((some 77), false))⟩, ⟨(some 79), (.load false 1 (.tmp 78)), (some ((some 77), false))⟩, ⟨(some 80), (.bin .gtr 3 (.tmp 79) (.const (.int .i64 16383))), (some ((some 77), false))⟩, ⟨(some 81), (.pick (.tmp 77) (.const (.bool true)) (.tmp 80)), none⟩, ⟨(some 82), (.mov (.tmp 81)), none⟩, ⟨(some 83), (.faddr 0 (.tmp 7)), (some ((some 82), false))⟩, ⟨(some 84), (.load false 1 (.tmp 83)), (some ((some 82), false))⟩, ⟨(some 85), (.len 0 (.tmp 84)), (some ((some 82), false))⟩, ⟨(some 86), (.mov (.tmp 0)), (some ((some 82), false))⟩, ⟨(some 87), (.call (.func 99) [(.tmp 86)]), (some ((some 82), false))⟩, ⟨(some 88), (.bin .gtr 3 (.tmp 85) (.tmp 87)), (some ((some 82), false))⟩, ⟨(some 89), (.pick (.tmp 82) (.const (.bool true)) (.tmp 88)), none⟩, ⟨(some 90), (.mov (.tmp 89)), none⟩, ⟨(some 91), (.mov (.tmp 6)), (some ((some 90), false))⟩, ⟨(some 92), (.bin .eql 3 (.tmp 91) (.const (.int .i64 0))), (some ((some 90), false))⟩, ⟨(some 93), (.faddr 0 (.tmp 7)), (some ((some 90), false))⟩, ⟨(some 94), (.load false 1 (.tmp 93)), (some ((some 90), false))⟩, ⟨(some 95), (.len 0 (.tmp 94)), (some ((some 90), false))⟩, ⟨(some 96), (.bin .eql 3 (.tmp 95) (.const (.int .i64 0))), (some ((some 90), false))⟩, ⟨(some 97), (.eqb true (.tmp 92) (.tmp 96)), (some ((some 90), false))⟩, ⟨(some 98), (.pick (.tmp 90) (.const (.bool true)) (.tmp 97)), none⟩] true [(10, 13), (11, 13)]) (.cond (.tmp 98) (.seq (.region [⟨(some 4), (.mov (.const (.bool false))), none⟩] false []) .ret) .skip)) (.seq (.region [⟨(some 99), (.mov (.tmp 6)), none⟩, ⟨(some 100), (.bin .gtr 3 (.tmp 99) (.const (.int .i64 1))), none⟩, ⟨(some 101), (.mov (.tmp 100)), none⟩, ⟨(some 102), (.faddr 2 (.tmp 3)), (some ((some 101), true))⟩, ⟨(some 103), (.load false 1 (.tmp 102)), (some ((some 101), true))⟩, ⟨(some 104), (.mov (.tmp 6)), (some ((some 101), true))⟩, ⟨(some 105), (.bin .sub 3 (.tmp 104) (.const (.int .i64 1))), (some ((some 101), true))⟩, ⟨(some 106), (.iaddr none 2 (.tmp 103) (.tmp 105)), (some ((some 101), true))⟩, ⟨(some 107), (.faddr 0 (.tmp 106)), (some ((some 101), true))⟩, ⟨(some 108), (.load false 1 (.tmp 107)), (some ((some 101), true))⟩, ⟨(some 109), (.faddr 0 (.tmp 7)), (some ((some 101), true))⟩, ⟨(some 110), (.load false 1 (.tmp 109)), (some ((some 101), true))⟩, ⟨(some 111), (.call (.func 89) [(.tmp 108), (.tmp 110)]), (some ((some 101), true))⟩, ⟨(some 112), (.bin .neq 3 (.tmp 111) (.const (.int .i64 (-1)))), (some ((some 101), true))⟩, ⟨(some 113), (.pick (.tmp 101) (.tmp 112) (.const (.bool false))), none⟩] true []) (.cond (.tmp 113) (.seq (.region [⟨(some 4), (.mov (.const (.bool false))), none⟩] false []) .ret) .skip))))) (.region [⟨(some 67), (.mov (.tmp 6)), none⟩, ⟨(some 68), (.bin .add 3 (.tmp 67) (.const (.int .i64 1))), none⟩, ⟨(some 6), (.mov (.tmp 68)), none⟩] false [])))
def c29R3 : ACode := (.seq (.region [⟨(some 114), (.faddr 2 (.tmp 3)), none⟩, ⟨(some 115), (.load false 1 (.tmp 114)), none⟩, ⟨(some 116), (.len 0 (.tmp 115)), none⟩, ⟨(some 117), (.bin .gtr 3 (.tmp 116) (.const (.int .i64 0))), none⟩, ⟨(some 118), (.mov (.tmp 117)), none⟩, ⟨(some 119), (.faddr 1 (.tmp 3)), (some ((some 118), true))⟩, ⟨(some 120), (.load false 1 (.tmp 119)), (some ((some 118), true))⟩, ⟨(some 121), (.len 0 (.tmp 120)), (some ((some 118), true))⟩, ⟨(some 122), (.bin .eql 3 (.tmp 121) (.const (.int .i64 0))), (some ((some 118), true))⟩, ⟨(some 123), (.pick (.tmp 118) (.tmp 122) (.const (.bool false))), none⟩, ⟨(some 4), (.mov (.tmp 123)), none⟩] false []) .ret)
def c29R4 : ACode := (.seq (.seq (.region [⟨(some 6), (.mov (.const (.int .i64 0))), none⟩] false []) (.block 2 (.loop c29L2))) c29R3)
def c29 : ACode := (.seq (.region [⟨(some 3), (.box 3 (.tmp 1)), none⟩, ⟨(some 4), (.mov (.const (.bool false))), none⟩] false []) (.seq (.seq (.region [⟨(some 8), (.mov (.tmp 0)), none⟩, ⟨(some 9), (.bin .lss 3 (.tmp 8) (.const (.int .i64 1))), none⟩, ⟨(some 10), (.mov (.tmp 9)), none⟩, ⟨(some 11), (.mov (.tmp 0)), (some ((some 10), false))⟩, ⟨(some 12), (.bin .gtr 3 (.tmp 11) (.const (.int .i64 3))), (some ((some 10), false))⟩, ⟨(some 13), (.pick (.tmp 10) (.const (.bool true)) (.tmp 12)), none⟩, ⟨(some 14), (.mov (.tmp 13)), none⟩, ⟨(some 15), (.mov (.tmp 0)), (some ((some 14), false))⟩, ⟨(some 16), (.load true 3 (.tmp 3)), (some ((some 14), false))⟩, ⟨(some 17), (.call (.func 86) [(.tmp 15), (.tmp 16)]), (some ((some 14), false))⟩, ⟨(some 18), (.un .not (.tmp 17)), (some ((some 14), false))⟩, ⟨(some 19), (.pick (.tmp 14) (.const (.bool true)) (.tmp 18)), none⟩] false []) (.cond (.tmp 19) (.seq (.region [⟨(some 4), (.mov (.const (.bool false))), none⟩] false []) .ret) .skip)) (.seq (.seq (.region [⟨(some 20), (.faddr 0 (.tmp 3)), none⟩, ⟨(some 21), (.load false 1 (.tmp 20)), none⟩] false []) (.cond (.tmp 21) (.seq (.seq (.region [⟨(some 5), (.mov (.const (.int .i64 0))), none⟩] false []) (.block 0 (.loop c29L0))) c29R1) .skip)) c29R4)))
def r29 : List ARes := [(.tmp 4)]
def c30 : ACode := (.seq (.region [⟨(some 3), (.box 4 (.tmp 1)), none⟩, ⟨(some 4), (.mov (.const (.bool false))), none⟩] false []) (.seq (.seq (.region [⟨(some 5), (.mov (.tmp 0)), none⟩, ⟨(some 6), (.bin .lss 3 (.tmp 5) (.const (.int .i64 1))), none⟩, ⟨(some 7), (.mov (.tmp 6)), none⟩, ⟨(some 8), (.mov (.tmp 0)), (some ((some 7), false))⟩, ⟨(some 9), (.bin .gtr 3 (.tmp 8) (.const (.int .i64 3))), (some ((some 7), false))⟩, ⟨(some 10), (.pick (.tmp 7) (.const (.bool true)) (.tmp 9)), none⟩, ⟨(some 11), (.mov (.tmp 10)), none⟩, ⟨(some 12), (.faddr 0 (.tmp 3)), (some ((some 11), false))⟩, ⟨(some 13), (.load false 1 (.tmp 12)), (some ((some 11), false))⟩, ⟨(some 14), (.len 0 (.tmp 13)), (some ((some 11), false))⟩, ⟨(some 15), (.bin .lss 3 (.tmp 14) (.const (.int .i64 1))), (some ((some 11), false))⟩, ⟨(some 16), (.pick (.tmp 11) (.const (.bool true)) (.tmp 15)), none⟩, ⟨(some 17), (.mov (.tmp 16)), none⟩, ⟨(some 18), (.faddr 0 (.tmp 3)), (some ((some 17), false))⟩, ⟨(some 19), (.load false 1 (.tmp 18)), (some ((some 17), false))⟩, ⟨(some 20), (.len 0 (.tmp 19)), (some ((some 17), false))⟩, ⟨(some 21), (.mov (.tmp 0)), (some ((some 17), false))⟩, ⟨(some 22), (.call (.func 99) [(.tmp 21)]), (some ((some 17), false))⟩, ⟨(some 23), (.bin .gtr 3 (.tmp 20) (.tmp 22)), (some ((some 17), false))⟩, ⟨(some 24), (.pick (.tmp 17) (.const (.bool true)) (.tmp 23)), none⟩] true [(14, 17), (15, 17)]) (.cond (.tmp 24) (.seq (.region [⟨(some 4), (.mov (.const (.bool false))), none⟩] false []) .ret) .skip)) (.seq (.seq (.region [⟨(some 25), (.faddr 3 (.tmp 3)), none⟩, ⟨(some 26), (.load false 1 (.tmp 25)), none⟩, ⟨(some 27), (.bin .eql 3 (.tmp 26) (.const (.int .i64 0))), none⟩] false []) (.cond (.tmp 27) (.seq (.region [⟨(some 28), (.faddr 2 (.tmp 3)), none⟩, ⟨(some 29), (.load false 1 (.tmp 28)), none⟩, ⟨(some 30), (.bin .eql 3 (.tmp 29) (.const (.int .i64 0))), none⟩, ⟨(some 31), (.mov (.tmp 30)), none⟩, ⟨(some 32), (.faddr 1 (.tmp 3)), (some ((some 31), true))⟩, ⟨(some 33), (.load false 1 (.tmp 32)), (some ((some 31), true))⟩, ⟨(some 34), (.len 0 (.tmp 33)), (some ((some 31), true))⟩, ⟨(some 35), (.mov (.tmp 0)), (some ((some 31), true))⟩, ⟨(some 36), (.call (.func 100) [(.tmp 35)]), (some ((some 31), true))⟩, ⟨(some 37), (.bin .leq 3 (.tmp 34) (.tmp 36)), (some ((some 31), true))⟩, ⟨(some 38), (.pick (.tmp 31) (.tmp 37) (.const (.bool false))), none⟩, ⟨(some 4), (.mov (.tmp 38)), none⟩] true [(5, 8), (6, 8)]) .ret) .skip)) (.seq (.region [⟨(some 39), (.faddr 3 (.tmp 3)), none⟩, ⟨(some 40), (.load false 1 (.tmp 39)), none⟩, ⟨(some 41), (.bin .gtr 3 (.tmp 40) (.const (.int .i64 1))), none⟩, ⟨(some 42), (.mov (.tmp 41)), none⟩, ⟨(some 43), (.faddr 3 (.tmp 3)), (some ((some 42), true))⟩, ⟨(some 44), (.load false 1 (.tmp 43)), (some ((some 42), true))⟩, ⟨(some 45), (.bin .lss 3 (.tmp 44) (.const (.int .i64 16384))), (some ((some 42), true))⟩, ⟨(some 46), (.pick (.tmp 42) (.tmp 45) (.const (.bool false))), none⟩, ⟨(some 47), (.mov (.tmp 46)), none⟩, ⟨(some 48), (.faddr 1 (.tmp 3)), (some ((some 47), true))⟩, ⟨(some 49), (.load false 1 (.tmp 48)), (some ((some 47), true))⟩, ⟨(some 50), (.len 0 (.tmp 49)), (some ((some 47), true))⟩, ⟨(some 51), (.bin .eql 3 (.tmp 50) (.const (.int .i64 0))), (some ((some 47), true))⟩, ⟨(some 52), (.pick (.tmp 47) (.tmp 51) (.const (.bool false))), none⟩, ⟨(some 53), (.mov (.tmp 52)), none⟩, ⟨(some 54), (.faddr 2 (.tmp 3)), (some ((some 53), true))⟩, ⟨(some 55), (.load false 1 (.tmp 54)), (some ((some 53), true))⟩, ⟨(some 56), (.bin .gtr 3 (.tmp 55) (.const (.int .i64 32))), (some ((some 53), true))⟩, ⟨(some 57), (.pick (.tmp 53) (.tmp 56) (.const (.bool false))), none⟩, ⟨(some 58), (.mov (.tmp 57)), none⟩, ⟨(some 59), (.faddr 2 (.tmp 3)), (some ((some 58), true))⟩, ⟨(some 60), (.load false 1 (.tmp 59)), (some ((some 58), true))⟩, ⟨(some 61), (.mov (.tmp 0)), (some ((some 58), true))⟩, ⟨(some 62), (.call (.func 100) [(.tmp 61)]), (some ((some 58), true))⟩, ⟨(some 63), (.bin .leq 3 (.tmp 60) (.tmp 62)), (some ((some 58), true))⟩, ⟨(some 64), (.pick (.tmp 58) (.tmp 63) (.const (.bool false))), none⟩, ⟨(some 4), (.mov (.tmp 64)), none⟩] true [(21, 23)]) .ret))))
def r30 : List ARes := [(.tmp 4)]
def c31 : ACode := (.seq (.region [⟨(some 2), (.box 3 (.tmp 0)), none⟩, ⟨(some 3), (.box 4 (.tmp 1)), none⟩, ⟨(some 4), (.alloc [(.sc (.bool false)), (.sc (.slice none 0 0)), (.sc (.slice none 0 0))]), none⟩] false []) (.seq (.region [⟨(some 9), (.load true 3 (.tmp 2)), none⟩, ⟨(some 10), (.faddr 0 (.tmp 3)), none⟩, ⟨(some 11), (.load false 1 (.tmp 10)), none⟩, ⟨(some 12), (.call (.func 76) [(.tmp 9), (.tmp 11)]), none⟩, ⟨(some 8), (.mov (.tmp 12)), none⟩, ⟨(some 13), (.ext (.tmp 8) 0), none⟩, ⟨(some 14), (.ext (.tmp 8) 1), none⟩, ⟨(some 5), (.mov (.tmp 13)), none⟩, ⟨(some 6), (.mov (.tmp 14)), none⟩] false []) (.seq (.region [⟨(some 15), (.faddr 1 (.tmp 2)), none⟩, ⟨(some 16), (.load false 1 (.tmp 15)), none⟩, ⟨(some 17), (.call (.func 101) [(.tmp 16)]), none⟩, ⟨(some 7), (.mov (.tmp 17)), none⟩] false []) (.seq (.seq (.region [⟨(some 18), (.mov (.tmp 6)), none⟩] false []) (.cond (.tmp 18) (.region [⟨(some 19), (.mov (.tmp 7)), none⟩, ⟨(some 20), (.mov (.tmp 5)), none⟩, ⟨(some 21), (.load true 4 (.tmp 3)), none⟩, ⟨(some 22), (.iaddr none 4 (.tmp 19) (.tmp 20)), none⟩, ⟨none, (.store 4 (.tmp 22) (.tmp 21)), none⟩] false []) (.region [⟨(some 23), (.mov (.tmp 7)), none⟩, ⟨(some 24), (.mov (.tmp 5)), none⟩, ⟨(some 25), (.load true 4 (.tmp 3)), none⟩, ⟨(some 26), (.bslice 4 [(.sc (.slice none 0 0)), (.sc (.slice none 0 0)), (.sc (.int .i64 0)), (.sc (.int .i64 0))] 1 [(0, (.tmp 25))]), none⟩, ⟨(some 27), (.call (.func 102) [(.tmp 23), (.tmp 24), (.tmp 26)]), none⟩, ⟨(some 7), (.mov (.tmp 27)), none⟩] false []))) (.seq (.region [⟨(some 28), (.faddr 0 (.tmp 2)), none⟩, ⟨(some 29), (.load false 1 (.tmp 28)), none⟩, ⟨(some 30), (.mov (.tmp 7)), none⟩, ⟨(some 31), (.faddr 2 (.tmp 2)), none⟩, ⟨(some 32), (.load false 1 (.tmp 31)), none⟩, ⟨(some 33), (.build [(.sc (.bool false)), (.sc (.slice none 0 0)), (.sc (.slice none 0 0))] [(0, (1, (.tmp 29))), (1, (1, (.tmp 30))), (2, (1, (.tmp 32)))]), none⟩, ⟨none, (.store 3 (.tmp 4) (.tmp 33)), none⟩] false []) .ret)))))
def r31 : List ARes := [(.cell 4 true 3)]
def c32 : ACode := (.seq (.region [⟨(some 4), (.box 3 (.tmp 0)), none⟩, ⟨(some 8), (.alloc [(.sc (.bool false)), (.sc (.slice none 0 0)), (.sc (.slice none 0 0))]), none⟩] false []) (.seq (.region [⟨(some 9), (.mov (.tmp 1)), none⟩, ⟨(some 10), (.mx2 (.tmp 9) (.const (.int .i64 0))), none⟩, ⟨(some 11), (.faddr 2 (.tmp 4)), none⟩, ⟨(some 12), (.load false 1 (.tmp 11)), none⟩, ⟨(some 13), (.len 0 (.tmp 12)), none⟩, ⟨(some 14), (.mn2 (.tmp 10) (.tmp 13)), none⟩, ⟨(some 1), (.mov (.tmp 14)), none⟩] false []) (.seq (.region [⟨(some 15), (.mov (.tmp 2)), none⟩, ⟨(some 16), (.mx2 (.tmp 15) (.const (.int .i64 0))), none⟩, ⟨(some 17), (.faddr 2 (.tmp 4)), none⟩, ⟨(some 18), (.load false 1 (.tmp 17)), none⟩, ⟨(some 19), (.len 0 (.tmp 18)), none⟩, ⟨(some 20), (.mov (.tmp 1)), none⟩, ⟨(some 21), (.bin .sub 3 (.tmp 19) (.tmp 20)), none⟩, ⟨(some 22), (.mn2 (.tmp 16) (.tmp 21)), none⟩, ⟨(some 2), (.mov (.tmp 22)), none⟩] false []) (.seq (.region [⟨(some 23), (.faddr 0 (.tmp 4)), none⟩, ⟨(some 24), (.load false 1 (.tmp 23)), none⟩, ⟨(some 25), (.faddr 1 (.tmp 4)), none⟩, ⟨(some 26), (.load false 1 (.tmp 25)), none⟩, ⟨(some 27), (.faddr 2 (.tmp 4)), none⟩, ⟨(some 28), (.load false 1 (.tmp 27)), none⟩, ⟨(some 29), (.call (.func 91) [(.tmp 28)]), none⟩, ⟨(some 30), (.mov (.tmp 1)), none⟩, ⟨(some 31), (.mov (.tmp 1)), none⟩, ⟨(some 32), (.mov (.tmp 2)), none⟩, ⟨(some 33), (.bin .add 3 (.tmp 31) (.tmp 32)), none⟩, ⟨(some 34), (.mov (.tmp 3)), none⟩, ⟨(some 35), (.call (.func 103) [(.tmp 29), (.tmp 30), (.tmp 33), (.tmp 34)]), none⟩, ⟨(some 36), (.build [(.sc (.bool false)), (.sc (.slice none 0 0)), (.sc (.slice none 0 0))] [(0, (1, (.tmp 24))), (1, (1, (.tmp 26))), (2, (1, (.tmp 35)))]), none⟩, ⟨none, (.store 3 (.tmp 8) (.tmp 36)), none⟩] true [(1, 6), (3, 6), (1, 12), (3, 12)]) .ret))))
def r32 : List ARes := [(.cell 8 true 3)]
def c33L0 : ACode := (.seq (.seq (.region [⟨(some 9), (.mov (.tmp 8)), none⟩, ⟨(some 10), (.mov (.tmp 2)), none⟩, ⟨(some 11), (.bin .lss 3 (.tmp 9) (.tmp 10)), none⟩] false []) (.cond (.tmp 11) .skip (.exit 0))) (.seq (.block 1 (.region [⟨(some 14), (.mov (.tmp 7)), none⟩, ⟨(some 15), (.mov (.tmp 0)), none⟩, ⟨(some 16), (.load true 3 (.tmp 4)), none⟩, ⟨(some 17), (.mov (.tmp 8)), none⟩, ⟨(some 18), (.call (.func 104) [(.tmp 15), (.tmp 16), (.tmp 17)]), none⟩, ⟨(some 19), (.bin .add 3 (.tmp 14) (.tmp 18)), none⟩, ⟨(some 7), (.mov (.tmp 19)), none⟩] false [])) (.region [⟨(some 12), (.mov (.tmp 8)), none⟩, ⟨(some 13), (.bin .add 3 (.tmp 12) (.const (.int .i64 1))), none⟩, ⟨(some 8), (.mov (.tmp 13)), none⟩] false [])))
def c33R1 : ACode := (.seq (.region [⟨(some 20), (.mov (.tmp 7)), none⟩, ⟨(some 6), (.mov (.tmp 20)), none⟩] false []) .ret)
def c33 : ACode := (.seq (.region [⟨(some 4), (.box 3 (.tmp 1)), none⟩, ⟨(some 6), (.mov (.const (.int .i64 0))), none⟩] false []) (.seq (.region [⟨(some 7), (.mov (.const (.int .i64 0))), none⟩] false []) (.seq (.seq (.region [⟨(some 8), (.mov (.const (.int .i64 0))), none⟩] false []) (.block 0 (.loop c33L0))) c33R1)))
def r33 : List ARes := [(.tmp 6)]
def c34 : ACode := (.seq (.region [⟨(some 1), (.box 3 (.tmp 0)), none⟩, ⟨(some 2), (.mov (.const (.int .i64 0))), none⟩] false []) (.seq (.seq (.region [⟨(some 3), (.faddr 0 (.tmp 1)), none⟩, ⟨(some 4), (.load false 1 (.tmp 3)), none⟩] false []) (.cond (.tmp 4) (.seq (.region [⟨(some 5), (.faddr 1 (.tmp 1)), none⟩, ⟨(some 6), (.load false 1 (.tmp 5)), none⟩, ⟨(some 7), (.len 0 (.tmp 6)), none⟩, ⟨(some 2), (.mov (.tmp 7)), none⟩] false []) .ret) .skip)) (.seq (.region [⟨(some 8), (.faddr 2 (.tmp 1)), none⟩, ⟨(some 9), (.load false 1 (.tmp 8)), none⟩, ⟨(some 10), (.len 0 (.tmp 9)), none⟩, ⟨(some 2), (.mov (.tmp 10)), none⟩] false []) .ret)))
def r34 : List ARes := [(.tmp 2)]
def c75 : ACode := (.seq (.region [⟨(some 4), (.alloc [(.sc (.slice none 0 0)), (.sc (.slice none 0 0)), (.sc (.int .i64 0)), (.sc (.int .i64 0))]), none⟩] false []) (.seq (.region [⟨(some 5), (.mov (.tmp 0)), none⟩, ⟨(some 6), (.call (.func 92) [(.tmp 5)]), none⟩, ⟨(some 7), (.mov (.tmp 1)), none⟩, ⟨(some 8), (.call (.func 92) [(.tmp 7)]), none⟩, ⟨(some 9), (.build [(.sc (.slice none 0 0)), (.sc (.slice none 0 0)), (.sc (.int .i64 0)), (.sc (.int .i64 0))] [(0, (1, (.tmp 6))), (1, (1, (.tmp 8)))]), none⟩, ⟨none, (.store 4 (.tmp 4) (.tmp 9)), none⟩] false []) .ret))
def r75 : List ARes := [(.cell 4 true 4)]
def c76 : ACode := (.seq (.region [⟨(some 2), (.box 3 (.tmp 0)), none⟩, ⟨(some 4), (.mov (.const (.int .i64 0))), none⟩, ⟨(some 5), (.mov (.const (.bool false))), none⟩] false []) (.seq (.region [⟨(some 6), (.faddr 1 (.tmp 2)), none⟩, ⟨(some 7), (.load false 1 (.tmp 6)), none⟩, ⟨(some 8), (.mov (.tmp 1)), none⟩, ⟨(some 9), (.call (.func 134) [(.tmp 7), (.tmp 8), (.func 135)]), none⟩, ⟨(some 10), (.ext (.tmp 9) 0), none⟩, ⟨(some 11), (.ext (.tmp 9) 1), none⟩, ⟨(some 4), (.mov (.tmp 10)), none⟩, ⟨(some 5), (.mov (.tmp 11)), none⟩] false []) .ret))
def r76 : List ARes := [(.tmp 4), (.tmp 5)]
def c77 : ACode := (.seq (.region [⟨(some 2), (.box 3 (.tmp 0)), none⟩, ⟨(some 4), (.alloc [(.sc (.bool false)), (.sc (.slice none 0 0)), (.sc (.slice none 0 0))]), none⟩, ⟨(some 5), (.mov (.const (.bool false))), none⟩] false []) (.seq (.region [⟨(some 9), (.load true 3 (.tmp 2)), none⟩, ⟨(some 10), (.mov (.tmp 1)), none⟩, ⟨(some 11), (.call (.func 76) [(.tmp 9), (.tmp 10)]), none⟩, ⟨(some 8), (.mov (.tmp 11)), none⟩, ⟨(some 12), (.ext (.tmp 8) 0), none⟩, ⟨(some 13), (.ext (.tmp 8) 1), none⟩, ⟨(some 6), (.mov (.tmp 12)), none⟩, ⟨(some 7), (.mov (.tmp 13)), none⟩] false []) (.seq (.seq (.region [⟨(some 14), (.mov (.tmp 7)), none⟩, ⟨(some 15), (.un .not (.tmp 14)), none⟩] false []) (.cond (.tmp 15) (.seq (.region [⟨(some 16), (.load true 3 (.tmp 2)), none⟩, ⟨none, (.store 3 (.tmp 4) (.tmp 16)), none⟩, ⟨(some 5), (.mov (.const (.bool false))), none⟩] false []) .ret) .skip)) (.seq (.region [⟨(some 17), (.faddr 0 (.tmp 2)), none⟩, ⟨(some 18), (.load false 1 (.tmp 17)), none⟩, ⟨(some 19), (.faddr 1 (.tmp 2)), none⟩, ⟨(some 20), (.load false 1 (.tmp 19)), none⟩, ⟨(some 21), (.call (.func 101) [(.tmp 20)]), none⟩, ⟨(some 22), (.mov (.tmp 6)), none⟩, ⟨(some 23), (.mov (.tmp 6)), none⟩, ⟨(some 24), (.bin .add 3 (.tmp 23) (.const (.int .i64 1))), none⟩, ⟨(some 25), (.call (.func 137) [(.tmp 21), (.tmp 22), (.tmp 24)]), none⟩, ⟨(some 26), (.faddr 2 (.tmp 2)), none⟩, ⟨(some 27), (.load false 1 (.tmp 26)), none⟩, ⟨(some 28), (.build [(.sc (.bool false)), (.sc (.slice none 0 0)), (.sc (.slice none 0 0))] [(0, (1, (.tmp 18))), (1, (1, (.tmp 25))), (2, (1, (.tmp 27)))]), none⟩, ⟨none, (.store 3 (.tmp 4) (.tmp 28)), none⟩, ⟨(some 5), (.mov (.const (.bool true))), none⟩] true [(1, 4), (1, 8), (4, 10), (8, 10)]) .ret))))
def r77 : List ARes := [(.cell 4 true 3), (.tmp 5)]
def c78L0 : ACode := (.seq (.seq (.region [⟨(some 10), (.mov (.tmp 5)), none⟩, ⟨(some 11), (.bin .gtr 3 (.tmp 10) (.const (.int .i64 0))), none⟩, ⟨(some 12), (.mov (.tmp 11)), none⟩, ⟨(some 13), (.faddr 2 (.tmp 2)), (some ((some 12), true))⟩, ⟨(some 14), (.load false 1 (.tmp 13)), (some ((some 12), true))⟩, ⟨(some 15), (.mov (.tmp 5)), (some ((some 12), true))⟩, ⟨(some 16), (.iaddr none 2 (.tmp 14) (.tmp 15)), (some ((some 12), true))⟩, ⟨(some 17), (.faddr 0 (.tmp 16)), (some ((some 12), true))⟩, ⟨(some 18), (.load false 1 (.tmp 17)), (some ((some 12), true))⟩, ⟨(some 19), (.mov (.tmp 1)), (some ((some 12), true))⟩, ⟨(some 20), (.call (.func 136) [(.tmp 18), (.tmp 19)]), (some ((some 12), true))⟩, ⟨(some 21), (.bin .gtr 3 (.tmp 20) (.const (.int .i64 0))), (some ((some 12), true))⟩, ⟨(some 22), (.pick (.tmp 12) (.tmp 21) (.const (.bool false))), none⟩] false []) (.cond (.tmp 22) .skip (.exit 0))) (.block 1 (.region [⟨(some 23), (.mov (.tmp 5)), none⟩, ⟨(some 24), (.bin .sub 3 (.tmp 23) (.const (.int .i64 1))), none⟩, ⟨(some 5), (.mov (.tmp 24)), none⟩] false [])))
def c78R1 : ACode := (.seq (.region [⟨(some 25), (.mov (.tmp 5)), none⟩, ⟨(some 26), (.mx2 (.tmp 25) (.const (.int .i64 0))), none⟩, ⟨(some 4), (.mov (.tmp 26)), none⟩] false []) .ret)
def c78 : ACode := (.seq (.region [⟨(some 2), (.box 3 (.tmp 0)), none⟩, ⟨(some 4), (.mov (.const (.int .i64 0))), none⟩] false []) (.seq (.region [⟨(some 6), (.faddr 2 (.tmp 2)), none⟩, ⟨(some 7), (.load false 1 (.tmp 6)), none⟩, ⟨(some 8), (.len 0 (.tmp 7)), none⟩, ⟨(some 9), (.bin .sub 3 (.tmp 8) (.const (.int .i64 1))), none⟩, ⟨(some 5), (.mov (.tmp 9)), none⟩] false []) (.seq (.block 0 (.loop c78L0)) c78R1)))
def r78 : List ARes := [(.tmp 4)]
def c79 : ACode := (.seq (.region [⟨(some 3), (.box 3 (.tmp 1)), none⟩, ⟨(some 4), (.mov (.const (.bool false))), none⟩] false []) (.seq (.region [⟨(some 6), (.load true 3 (.tmp 3)), none⟩, ⟨(some 7), (.mkfn (.func 138) [(.tmp 6)] []), none⟩, ⟨(some 5), (.mov (.tmp 7)), none⟩] false []) (.seq (.seq (.region [⟨(some 8), (.faddr 0 (.tmp 3)), none⟩, ⟨(some 9), (.load false 1 (.tmp 8)), none⟩] false []) (.cond (.tmp 9) (.region [⟨(some 10), (.load true 3 (.tmp 3)), none⟩, ⟨(some 11), (.mkfn (.func 139) [(.tmp 10)] []), none⟩, ⟨(some 5), (.mov (.tmp 11)), none⟩] false []) .skip)) (.seq (.region [⟨(some 12), (.mov (.tmp 0)), none⟩, ⟨(some 13), (.call (.func 140) [(.tmp 12)]), none⟩, ⟨(some 14), (.mov (.tmp 13)), none⟩, ⟨(some 15), (.mov (.tmp 5)), (some ((some 14), true))⟩, ⟨(some 16), (.mov (.tmp 0)), (some ((some 14), true))⟩, ⟨(some 17), (.call (.tmp 15) [(.tmp 16)]), (some ((some 14), true))⟩, ⟨(some 18), (.pick (.tmp 14) (.tmp 17) (.const (.bool false))), none⟩, ⟨(some 19), (.mov (.tmp 18)), none⟩, ⟨(some 20), (.load true 3 (.tmp 3)), (some ((some 19), true))⟩, ⟨(some 21), (.call (.func 142) [(.tmp 20)]), (some ((some 19), true))⟩, ⟨(some 22), (.call (.func 141) [(.tmp 21)]), (some ((some 19), true))⟩, ⟨(some 23), (.pick (.tmp 19) (.tmp 22) (.const (.bool false))), none⟩, ⟨(some 24), (.mov (.tmp 23)), none⟩, ⟨(some 25), (.mov (.tmp 0)), (some ((some 24), true))⟩, ⟨(some 26), (.load true 3 (.tmp 3)), (some ((some 24), true))⟩, ⟨(some 27), (.call (.func 26) [(.tmp 25), (.tmp 26)]), (some ((some 24), true))⟩, ⟨(some 28), (.pick (.tmp 24) (.tmp 27) (.const (.bool false))), none⟩, ⟨(some 4), (.mov (.tmp 28)), none⟩] false []) .ret))))
def r79 : List ARes := [(.tmp 4)]
def c80L0 : ACode := (.seq (.region [⟨(some 13), (.bin .lss 3 (.tmp 12) (.tmp 11)), none⟩] false []) (.seq (.cond (.tmp 13) .skip (.exit 0)) (.seq (.block 1 (.seq (.region [⟨(some 14), (.iaddr none 1 (.tmp 10) (.tmp 12)), none⟩, ⟨(some 15), (.load false 1 (.tmp 14)), none⟩, ⟨(some 7), (.mov (.tmp 15)), none⟩] false []) (.region [⟨(some 16), (.mov (.tmp 5)), none⟩, ⟨(some 17), (.mov (.tmp 7)), none⟩, ⟨(some 18), (.bin .add 3 (.tmp 16) (.tmp 17)), none⟩, ⟨(some 5), (.mov (.tmp 18)), none⟩] false []))) (.region [⟨(some 19), (.bin .add 3 (.tmp 12) (.const (.int .i64 1))), none⟩, ⟨(some 12), (.mov (.tmp 19)), none⟩] false []))))
def c80R1 : ACode := (.seq (.region [⟨(some 20), (.mov (.tmp 5)), none⟩, ⟨(some 4), (.mov (.tmp 20)), none⟩] false []) .ret)
def c80 : ACode := (.seq (.region [⟨(some 3), (.box 3 (.tmp 1)), none⟩, ⟨(some 4), (.mov (.const (.int .i64 0))), none⟩] false []) (.seq (.region [⟨(some 5), (.mov (.const (.int .i64 0))), none⟩] false []) (.seq (.seq (.region [⟨(some 8), (.load true 3 (.tmp 3)), none⟩, ⟨(some 9), (.mov (.tmp 0)), none⟩, ⟨(some 10), (.call (.func 83) [(.tmp 8), (.tmp 9)]), none⟩, ⟨(some 11), (.len 0 (.tmp 10)), none⟩, ⟨(some 12), (.mov (.const (.int .i64 0))), none⟩] false []) (.block 0 (.loop c80L0))) c80R1)))
def r80 : List ARes := [(.tmp 4)]
def c81 : ACode := (.seq (.region [⟨(some 3), (.box 3 (.tmp 1)), none⟩, ⟨(some 4), (.mov (.const (.bool false))), none⟩] false []) (.seq (.region [⟨(some 5), (.mov (.tmp 0)), none⟩, ⟨(some 6), (.load true 3 (.tmp 3)), none⟩, ⟨(some 7), (.call (.func 80) [(.tmp 5), (.tmp 6)]), none⟩, ⟨(some 8), (.bin .mul 3 (.const (.int .i64 3)) (.tmp 7)), none⟩, ⟨(some 9), (.mov (.tmp 0)), none⟩, ⟨(some 10), (.call (.func 90) [(.tmp 9)]), none⟩, ⟨(some 11), (.bin .lss 3 (.tmp 8) (.tmp 10)), none⟩, ⟨(some 4), (.mov (.tmp 11)), none⟩] false []) .ret))
def r81 : List ARes := [(.tmp 4)]
def c82 : ACode := (.seq (.region [⟨(some 4), (.box 4 (.tmp 0)), none⟩] false []) (.seq (.seq (.region [⟨(some 8), (.load false 1 (.tmp 1)), none⟩, ⟨(some 9), (.faddr 1 (.tmp 4)), none⟩, ⟨(some 10), (.load true 3 (.tmp 9)), none⟩, ⟨(some 11), (.call (.func 26) [(.tmp 8), (.tmp 10)]), none⟩, ⟨(some 12), (.mov (.tmp 11)), none⟩, ⟨(some 13), (.faddr 1 (.tmp 4)), (some ((some 12), false))⟩, ⟨(some 14), (.load true 3 (.tmp 13)), (some ((some 12), false))⟩, ⟨(some 15), (.load false 1 (.tmp 1)), (some ((some 12), false))⟩, ⟨(some 16), (.call (.func 83) [(.tmp 14), (.tmp 15)]), (some ((some 12), false))⟩, ⟨(some 17), (.len 0 (.tmp 16)), (some ((some 12), false))⟩, ⟨(some 18), (.bin .lss 3 (.tmp 17) (.const (.int .i64 2))), (some ((some 12), false))⟩, ⟨(some 19), (.pick (.tmp 12) (.const (.bool true)) (.tmp 18)), none⟩] false []) (.cond (.tmp 19) (.seq (.region [⟨(some 20), (.load false 1 (.tmp 2)), none⟩, ⟨(some 21), (.load true 4 (.tmp 4)), none⟩, ⟨(some 22), (.bslice 4 [(.sc (.slice none 0 0)), (.sc (.bool false)), (.sc (.slice none 0 0)), (.sc (.slice none 0 0))] 1 [(0, (.tmp 21))]), none⟩, ⟨(some 23), (.app 4 80 (.tmp 20) (.tmp 22)), none⟩, ⟨none, (.store 1 (.tmp 2) (.tmp 23)), none⟩] false []) .ret) .skip)) (.seq (.region [⟨(some 25), (.faddr 1 (.tmp 4)), none⟩, ⟨(some 26), (.load true 3 (.tmp 25)), none⟩, ⟨(some 27), (.faddr 1 (.tmp 4)), none⟩, ⟨(some 28), (.load true 3 (.tmp 27)), none⟩, ⟨(some 29), (.load false 1 (.tmp 1)), none⟩, ⟨(some 30), (.call (.func 85) [(.tmp 28), (.tmp 29)]), none⟩, ⟨(some 31), (.call (.func 84) [(.tmp 26), (.tmp 30)]), none⟩, ⟨(some 24), (.mov (.tmp 31)), none⟩, ⟨(some 32), (.ext (.tmp 24) 0), none⟩, ⟨(some 33), (.ext (.tmp 24) 1), none⟩, ⟨(some 34), (.ext (.tmp 24) 2), none⟩, ⟨(some 5), (.alloc [(.sc (.bool false)), (.sc (.slice none 0 0)), (.sc (.slice none 0 0))]), none⟩, ⟨(some 6), (.alloc [(.sc (.bool false)), (.sc (.slice none 0 0)), (.sc (.slice none 0 0))]), none⟩, ⟨none, (.store 3 (.tmp 5) (.tmp 32)), none⟩, ⟨none, (.store 3 (.tmp 6) (.tmp 33)), none⟩, ⟨(some 7), (.mov (.tmp 34)), none⟩] true [(1, 5), (1, 11), (3, 11), (4, 11), (5, 11), (6, 11), (1, 12), (3, 12), (4, 12), (5, 12), (6, 12)]) (.seq (.region [⟨(some 35), (.load false 1 (.tmp 3)), none⟩, ⟨(some 36), (.faddr 0 (.tmp 4)), none⟩, ⟨(some 37), (.load false 1 (.tmp 36)), none⟩, ⟨(some 38), (.load true 3 (.tmp 5)), none⟩, ⟨(some 39), (.build [(.sc (.slice none 0 0)), (.sc (.bool false)), (.sc (.slice none 0 0)), (.sc (.slice none 0 0))] [(0, (1, (.tmp 37))), (1, (3, (.tmp 38)))]), none⟩, ⟨(some 40), (.call (.tmp 35) [(.tmp 39)]), none⟩] false []) (.region [⟨(some 41), (.load false 1 (.tmp 3)), none⟩, ⟨(some 42), (.mov (.tmp 7)), none⟩, ⟨(some 43), (.load true 3 (.tmp 6)), none⟩, ⟨(some 44), (.build [(.sc (.slice none 0 0)), (.sc (.bool false)), (.sc (.slice none 0 0)), (.sc (.slice none 0 0))] [(0, (1, (.tmp 42))), (1, (3, (.tmp 43)))]), none⟩, ⟨(some 45), (.call (.tmp 41) [(.tmp 44)]), none⟩] false [])))))
def r82 : List ARes := []
def c83L0 : ACode := (.seq (.region [⟨(some 16), (.bin .lss 3 (.tmp 15) (.tmp 14)), none⟩] false []) (.seq (.cond (.tmp 16) .skip (.exit 0)) (.seq (.block 1 (.seq (.region [⟨(some 17), (.iaddr none 4 (.tmp 13) (.tmp 15)), none⟩, ⟨(some 18), (.load true 4 (.tmp 17)), none⟩, ⟨(some 7), (.alloc [(.sc (.slice none 0 0)), (.sc (.slice none 0 0)), (.sc (.int .i64 0)), (.sc (.int .i64 0))]), none⟩, ⟨none, (.store 4 (.tmp 7) (.tmp 18)), none⟩] false []) (.region [⟨(some 19), (.mov (.tmp 5)), none⟩, ⟨(some 20), (.mov (.tmp 1)), none⟩, ⟨(some 21), (.load true 4 (.tmp 7)), none⟩, ⟨(some 22), (.call (.func 143) [(.tmp 20), (.tmp 21)]), none⟩, ⟨(some 23), (.bslice 1 [(.sc (.int .i64 0))] 1 [(0, (.tmp 22))]), none⟩, ⟨(some 24), (.app 1 8 (.tmp 19) (.tmp 23)), none⟩, ⟨(some 5), (.mov (.tmp 24)), none⟩] false []))) (.region [⟨(some 25), (.bin .add 3 (.tmp 15) (.const (.int .i64 1))), none⟩, ⟨(some 15), (.mov (.tmp 25)), none⟩] false []))))
def c83R1 : ACode := (.seq (.region [⟨(some 26), (.mov (.tmp 5)), none⟩, ⟨(some 4), (.mov (.tmp 26)), none⟩] false []) .ret)
def c83L2 : ACode := (.seq (.region [⟨(some 31), (.bin .lss 3 (.tmp 30) (.tmp 29)), none⟩] false []) (.seq (.cond (.tmp 31) .skip (.exit 2)) (.seq (.block 3 (.seq (.region [⟨(some 32), (.iaddr none 2 (.tmp 28) (.tmp 30)), none⟩, ⟨(some 33), (.load true 2 (.tmp 32)), none⟩, ⟨(some 9), (.alloc [(.sc (.slice none 0 0)), (.sc (.int .i64 0))]), none⟩, ⟨none, (.store 2 (.tmp 9) (.tmp 33)), none⟩] false []) (.region [⟨(some 34), (.mov (.tmp 5)), none⟩, ⟨(some 35), (.mov (.tmp 1)), none⟩, ⟨(some 36), (.faddr 0 (.tmp 9)), none⟩, ⟨(some 37), (.load false 1 (.tmp 36)), none⟩, ⟨(some 38), (.call (.func 144) [(.tmp 35), (.tmp 37)]), none⟩, ⟨(some 39), (.bslice 1 [(.sc (.int .i64 0))] 1 [(0, (.tmp 38))]), none⟩, ⟨(some 40), (.app 1 8 (.tmp 34) (.tmp 39)), none⟩, ⟨(some 5), (.mov (.tmp 40)), none⟩] false []))) (.region [⟨(some 41), (.bin .add 3 (.tmp 30) (.const (.int .i64 1))), none⟩, ⟨(some 30), (.mov (.tmp 41)), none⟩] false []))))
def c83R3 : ACode := (.seq (.region [⟨(some 42), (.mov (.tmp 5)), none⟩, ⟨(some 4), (.mov (.tmp 42)), none⟩] false []) .ret)
def c83R4 : ACode := (.seq (.seq (.region [⟨(some 27), (.faddr 2 (.tmp 2)), none⟩, ⟨(some 28), (.load false 1 (.tmp 27)), none⟩, ⟨(some 29), (.len 0 (.tmp 28)), none⟩, ⟨(some 30), (.mov (.const (.int .i64 0))), none⟩] false []) (.block 2 (.loop c83L2))) c83R3)
def c83 : ACode := (.seq (.region [⟨(some 2), (.box 3 (.tmp 0)), none⟩, ⟨(some 4), (.mov (.const (.slice none 0 0))), none⟩] false []) (.seq (.region [⟨(some 5), (.mov (.const (.slice none 0 0))), none⟩] false []) (.seq (.seq (.region [⟨(some 10), (.faddr 0 (.tmp 2)), none⟩, ⟨(some 11), (.load false 1 (.tmp 10)), none⟩] false []) (.cond (.tmp 11) (.seq (.seq (.region [⟨(some 12), (.faddr 1 (.tmp 2)), none⟩, ⟨(some 13), (.load false 1 (.tmp 12)), none⟩, ⟨(some 14), (.len 0 (.tmp 13)), none⟩, ⟨(some 15), (.mov (.const (.int .i64 0))), none⟩] false []) (.block 0 (.loop c83L0))) c83R1) .skip)) c83R4)))
def r83 : List ARes := [(.tmp 4)]
def c84 : ACode := (.seq (.region [⟨(some 2), (.box 3 (.tmp 0)), none⟩, ⟨(some 4), (.alloc [(.sc (.bool false)), (.sc (.slice none 0 0)), (.sc (.slice none 0 0))]), none⟩, ⟨(some 5), (.alloc [(.sc (.bool false)), (.sc (.slice none 0 0)), (.sc (.slice none 0 0))]), none⟩, ⟨(some 6), (.mov (.const (.slice none 0 0))), none⟩] false []) (.seq (.seq (.region [⟨(some 8), (.faddr 0 (.tmp 2)), none⟩, ⟨(some 9), (.load false 1 (.tmp 8)), none⟩] false []) (.cond (.tmp 9) (.seq (.region [⟨(some 10), (.faddr 1 (.tmp 2)), none⟩, ⟨(some 11), (.load false 1 (.tmp 10)), none⟩, ⟨(some 12), (.mov (.tmp 1)), none⟩, ⟨(some 13), (.mov (.tmp 1)), none⟩, ⟨(some 14), (.slice 4 (.tmp 11) none (some (.tmp 12)) (some (.tmp 13))), none⟩, ⟨(some 15), (.build [(.sc (.bool false)), (.sc (.slice none 0 0)), (.sc (.slice none 0 0))] [(0, (1, (.const (.bool true)))), (1, (1, (.tmp 14)))]), none⟩, ⟨(some 16), (.faddr 1 (.tmp 2)), none⟩, ⟨(some 17), (.load false 1 (.tmp 16)), none⟩, ⟨(some 18), (.mov (.tmp 1)), none⟩, ⟨(some 19), (.slice 4 (.tmp 17) (some (.tmp 18)) none none), none⟩, ⟨(some 20), (.call (.func 101) [(.tmp 19)]), none⟩, ⟨(some 21), (.build [(.sc (.bool false)), (.sc (.slice none 0 0)), (.sc (.slice none 0 0))] [(0, (1, (.const (.bool true)))), (1, (1, (.tmp 20)))]), none⟩, ⟨(some 22), (.faddr 1 (.tmp 2)), none⟩, ⟨(some 23), (.load false 1 (.tmp 22)), none⟩, ⟨(some 24), (.mov (.tmp 1)), none⟩, ⟨(some 25), (.iaddr none 4 (.tmp 23) (.tmp 24)), none⟩, ⟨(some 26), (.faddr 0 (.tmp 25)), none⟩, ⟨(some 27), (.load false 1 (.tmp 26)), none⟩, ⟨none, (.store 3 (.tmp 4) (.tmp 15)), none⟩, ⟨none, (.store 3 (.tmp 5) (.tmp 21)), none⟩, ⟨(some 6), (.mov (.tmp 27)), none⟩] true [(1, 10), (4, 10), (10, 13), (10, 15), (10, 17), (13, 18), (15, 18), (17, 18), (13, 19), (15, 19), (17, 19)]) .ret) .skip)) (.seq (.region [⟨(some 28), (.faddr 2 (.tmp 2)), none⟩, ⟨(some 29), (.load false 1 (.tmp 28)), none⟩, ⟨(some 30), (.mov (.tmp 1)), none⟩, ⟨(some 31), (.slice 2 (.tmp 29) (some (.tmp 30)) none none), none⟩, ⟨(some 32), (.call (.func 91) [(.tmp 31)]), none⟩, ⟨(some 7), (.mov (.tmp 32)), none⟩] false []) (.seq (.region [⟨(some 33), (.mov (.tmp 7)), none⟩, ⟨(some 34), (.iaddr none 2 (.tmp 33) (.const (.int .i64 0))), none⟩, ⟨(some 35), (.faddr 0 (.tmp 34)), none⟩, ⟨(some 36), (.load false 1 (.tmp 35)), none⟩, ⟨(some 6), (.mov (.tmp 36)), none⟩] false []) (.seq (.region [⟨(some 37), (.mov (.tmp 7)), none⟩, ⟨(some 38), (.iaddr none 2 (.tmp 37) (.const (.int .i64 0))), none⟩, ⟨(some 39), (.faddr 0 (.tmp 38)), none⟩, ⟨none, (.store 1 (.tmp 39) (.const (.slice none 0 0))), none⟩] false []) (.seq (.region [⟨(some 40), (.faddr 2 (.tmp 2)), none⟩, ⟨(some 41), (.load false 1 (.tmp 40)), none⟩, ⟨(some 42), (.mov (.tmp 1)), none⟩, ⟨(some 43), (.mov (.tmp 1)), none⟩, ⟨(some 44), (.slice 2 (.tmp 41) none (some (.tmp 42)) (some (.tmp 43))), none⟩, ⟨(some 45), (.build [(.sc (.bool false)), (.sc (.slice none 0 0)), (.sc (.slice none 0 0))] [(2, (1, (.tmp 44)))]), none⟩, ⟨(some 46), (.mov (.tmp 7)), none⟩, ⟨(some 47), (.build [(.sc (.bool false)), (.sc (.slice none 0 0)), (.sc (.slice none 0 0))] [(2, (1, (.tmp 46)))]), none⟩, ⟨(some 48), (.mov (.tmp 6)), none⟩, ⟨none, (.store 3 (.tmp 4) (.tmp 45)), none⟩, ⟨none, (.store 3 (.tmp 5) (.tmp 47)), none⟩, ⟨(some 6), (.mov (.tmp 48)), none⟩] false []) .ret))))))
def r84 : List ARes := [(.cell 4 true 3), (.cell 5 true 3), (.tmp 6)]
def c85L0 : ACode := (.seq (.region [⟨(some 19), (.bin .lss 3 (.tmp 18) (.tmp 17)), none⟩] false []) (.seq (.cond (.tmp 19) .skip (.exit 0)) (.seq (.block 1 (.seq (.region [⟨(some 20), (.mov (.tmp 18)), none⟩, ⟨(some 21), (.iaddr none 1 (.tmp 16) (.tmp 18)), none⟩, ⟨(some 22), (.load false 1 (.tmp 21)), none⟩, ⟨(some 7), (.mov (.tmp 20)), none⟩, ⟨(some 8), (.mov (.tmp 22)), none⟩] false []) (.seq (.region [⟨(some 23), (.mov (.tmp 6)), none⟩, ⟨(some 24), (.mov (.tmp 8)), none⟩, ⟨(some 25), (.bin .add 3 (.tmp 23) (.tmp 24)), none⟩, ⟨(some 6), (.mov (.tmp 25)), none⟩] false []) (.seq (.region [⟨(some 26), (.mov (.tmp 6)), none⟩, ⟨(some 27), (.bin .mul 3 (.const (.int .i64 2)) (.tmp 26)), none⟩, ⟨(some 28), (.mov (.tmp 1)), none⟩, ⟨(some 29), (.load true 3 (.tmp 2)), none⟩, ⟨(some 30), (.call (.func 80) [(.tmp 28), (.tmp 29)]), none⟩, ⟨(some 31), (.bin .geq 3 (.tmp 27) (.tmp 30)), none⟩] false []) (.cond (.tmp 31) (.seq (.region [⟨(some 32), (.mov (.tmp 7)), none⟩, ⟨(some 33), (.bin .add 3 (.tmp 32) (.const (.int .i64 1))), none⟩, ⟨(some 4), (.mov (.tmp 33)), none⟩] false []) .ret) .skip))))) (.region [⟨(some 34), (.bin .add 3 (.tmp 18) (.const (.int .i64 1))), none⟩, ⟨(some 18), (.mov (.tmp 34)), none⟩] false []))))
def c85R1 : ACode := (.seq (.region [⟨(some 35), (.mov (.tmp 5)), none⟩, ⟨(some 36), (.len 0 (.tmp 35)), none⟩, ⟨(some 37), (.bin .sub 3 (.tmp 36) (.const (.int .i64 1))), none⟩, ⟨(some 4), (.mov (.tmp 37)), none⟩] false []) .ret)
def c85 : ACode := (.seq (.region [⟨(some 2), (.box 3 (.tmp 0)), none⟩, ⟨(some 4), (.mov (.const (.int .i64 0))), none⟩] false []) (.seq (.region [⟨(some 9), (.load true 3 (.tmp 2)), none⟩, ⟨(some 10), (.mov (.tmp 1)), none⟩, ⟨(some 11), (.call (.func 83) [(.tmp 9), (.tmp 10)]), none⟩, ⟨(some 5), (.mov (.tmp 11)), none⟩] false []) (.seq (.region [⟨(some 6), (.mov (.const (.int .i64 0))), none⟩] false []) (.seq (.seq (.region [⟨(some 12), (.mov (.tmp 5)), none⟩, ⟨(some 13), (.mov (.tmp 5)), none⟩, ⟨(some 14), (.len 0 (.tmp 13)), none⟩, ⟨(some 15), (.bin .sub 3 (.tmp 14) (.const (.int .i64 1))), none⟩, ⟨(some 16), (.slice 1 (.tmp 12) none (some (.tmp 15)) none), none⟩, ⟨(some 17), (.len 0 (.tmp 16)), none⟩, ⟨(some 18), (.mov (.const (.int .i64 0))), none⟩] false []) (.block 0 (.loop c85L0))) c85R1))))
def r85 : List ARes := [(.tmp 4)]
def c86 : ACode := (.seq (.region [⟨(some 3), (.box 3 (.tmp 1)), none⟩, ⟨(some 4), (.mov (.const (.bool false))), none⟩] false []) (.seq (.region [⟨(some 5), (.mov (.tmp 0)), none⟩, ⟨(some 6), (.load true 3 (.tmp 3)), none⟩, ⟨(some 7), (.load true 3 (.tmp 3)), none⟩, ⟨(some 8), (.call (.func 34) [(.tmp 7)]), none⟩, ⟨(some 9), (.call (.func 33) [(.tmp 5), (.tmp 6), (.tmp 8)]), none⟩, ⟨(some 10), (.mov (.tmp 0)), none⟩, ⟨(some 11), (.call (.func 145) [(.tmp 10)]), none⟩, ⟨(some 12), (.bin .leq 3 (.tmp 9) (.tmp 11)), none⟩, ⟨(some 4), (.mov (.tmp 12)), none⟩] true [(1, 3)]) .ret))
def r86 : List ARes := [(.tmp 4)]
def c89L0 : ACode := (.seq (.seq (.region [⟨(some 6), (.mov (.tmp 5)), none⟩, ⟨(some 7), (.mov (.tmp 0)), none⟩, ⟨(some 8), (.len 0 (.tmp 7)), none⟩, ⟨(some 9), (.bin .lss 3 (.tmp 6) (.tmp 8)), none⟩, ⟨(some 10), (.mov (.tmp 9)), none⟩, ⟨(some 11), (.mov (.tmp 5)), (some ((some 10), true))⟩, ⟨(some 12), (.mov (.tmp 1)), (some ((some 10), true))⟩, ⟨(some 13), (.len 0 (.tmp 12)), (some ((some 10), true))⟩, ⟨(some 14), (.bin .lss 3 (.tmp 11) (.tmp 13)), (some ((some 10), true))⟩, ⟨(some 15), (.pick (.tmp 10) (.tmp 14) (.const (.bool false))), none⟩] false []) (.cond (.tmp 15) .skip (.exit 0))) (.seq (.block 1 (.seq (.seq (.region [⟨(some 18), (.mov (.tmp 0)), none⟩, ⟨(some 19), (.mov (.tmp 5)), none⟩, ⟨(some 20), (.iaddr none 1 (.tmp 18) (.tmp 19)), none⟩, ⟨(some 21), (.load false 1 (.tmp 20)), none⟩, ⟨(some 22), (.mov (.tmp 1)), none⟩, ⟨(some 23), (.mov (.tmp 5)), none⟩, ⟨(some 24), (.iaddr none 1 (.tmp 22) (.tmp 23)), none⟩, ⟨(some 25), (.load false 1 (.tmp 24)), none⟩, ⟨(some 26), (.bin .lss 5 (.tmp 21) (.tmp 25)), none⟩] true []) (.cond (.tmp 26) (.seq (.region [⟨(some 4), (.mov (.const (.int .i64 (-1)))), none⟩] false []) .ret) .skip)) (.seq (.region [⟨(some 27), (.mov (.tmp 0)), none⟩, ⟨(some 28), (.mov (.tmp 5)), none⟩, ⟨(some 29), (.iaddr none 1 (.tmp 27) (.tmp 28)), none⟩, ⟨(some 30), (.load false 1 (.tmp 29)), none⟩, ⟨(some 31), (.mov (.tmp 1)), none⟩, ⟨(some 32), (.mov (.tmp 5)), none⟩, ⟨(some 33), (.iaddr none 1 (.tmp 31) (.tmp 32)), none⟩, ⟨(some 34), (.load false 1 (.tmp 33)), none⟩, ⟨(some 35), (.bin .gtr 5 (.tmp 30) (.tmp 34)), none⟩] true []) (.cond (.tmp 35) (.seq (.region [⟨(some 4), (.mov (.const (.int .i64 1))), none⟩] false []) .ret) .skip)))) (.region [⟨(some 16), (.mov (.tmp 5)), none⟩, ⟨(some 17), (.bin .add 3 (.tmp 16) (.const (.int .i64 1))), none⟩, ⟨(some 5), (.mov (.tmp 17)), none⟩] false [])))
def c89R1 : ACode := (.seq (.seq (.region [⟨(some 36), (.mov (.tmp 0)), none⟩, ⟨(some 37), (.len 0 (.tmp 36)), none⟩, ⟨(some 38), (.mov (.tmp 1)), none⟩, ⟨(some 39), (.len 0 (.tmp 38)), none⟩, ⟨(some 40), (.bin .lss 3 (.tmp 37) (.tmp 39)), none⟩] false []) (.cond (.tmp 40) (.seq (.region [⟨(some 4), (.mov (.const (.int .i64 (-1)))), none⟩] false []) .ret) .skip)) (.seq (.seq (.region [⟨(some 41), (.mov (.tmp 0)), none⟩, ⟨(some 42), (.len 0 (.tmp 41)), none⟩, ⟨(some 43), (.mov (.tmp 1)), none⟩, ⟨(some 44), (.len 0 (.tmp 43)), none⟩, ⟨(some 45), (.bin .gtr 3 (.tmp 42) (.tmp 44)), none⟩] false []) (.cond (.tmp 45) (.seq (.region [⟨(some 4), (.mov (.const (.int .i64 1))), none⟩] false []) .ret) .skip)) (.seq (.region [⟨(some 4), (.mov (.const (.int .i64 0))), none⟩] false []) .ret)))
def c89 : ACode := (.seq (.region [⟨(some 4), (.mov (.const (.int .i64 0))), none⟩] false []) (.seq (.seq (.region [⟨(some 5), (.mov (.const (.int .i64 0))), none⟩] false []) (.block 0 (.loop c89L0))) c89R1))
def r89 : List ARes := [(.tmp 4)]
def c90 : ACode := (.seq (.region [⟨(some 2), (.mov (.const (.int .i64 0))), none⟩] false []) (.seq (.seq (.region [⟨(some 3), (.mov (.tmp 0)), none⟩, ⟨(some 4), (.call (.func 140) [(.tmp 3)]), none⟩, ⟨(some 5), (.un .not (.tmp 4)), none⟩] false []) (.cond (.tmp 5) (.seq (.region [⟨(some 2), (.mov (.const (.int .i64 0))), none⟩] false []) .ret) .skip)) (.seq (.region [⟨(some 6), (.mov (.tmp 0)), none⟩, ⟨(some 7), (.call (.func 146) [(.tmp 6)]), none⟩, ⟨(some 8), (.bin .sub 3 (.const (.int .i64 256)) (.tmp 7)), none⟩, ⟨(some 2), (.mov (.tmp 8)), none⟩] false []) .ret)))
def r90 : List ARes := [(.tmp 2)]
def c91 : ACode := (.seq (.region [⟨(some 2), (.mov (.const (.slice none 0 0))), none⟩] false []) (.seq (.seq (.region [⟨(some 3), (.mov (.tmp 0)), none⟩, ⟨(some 4), (.isnil false 0 (.tmp 3)), none⟩] false []) (.cond (.tmp 4) (.seq (.region [⟨(some 2), (.mov (.const (.slice none 0 0))), none⟩] false []) .ret) .skip)) (.seq (.region [⟨(some 5), (.bslice 2 [(.sc (.slice none 0 0)), (.sc (.int .i64 0))] 0 []), none⟩, ⟨(some 6), (.mov (.tmp 0)), none⟩, ⟨(some 7), (.app 2 32 (.tmp 5) (.tmp 6)), none⟩, ⟨(some 2), (.mov (.tmp 7)), none⟩] false []) .ret)))
def r91 : List ARes := [(.tmp 2)]
def c92 : ACode := (.seq (.region [⟨(some 2), (.mov (.const (.slice none 0 0))), none⟩] false []) (.seq (.seq (.region [⟨(some 3), (.mov (.tmp 0)), none⟩, ⟨(some 4), (.isnil false 0 (.tmp 3)), none⟩] false []) (.cond (.tmp 4) (.seq (.region [⟨(some 2), (.mov (.const (.slice none 0 0))), none⟩] false []) .ret) .skip)) (.seq (.region [⟨(some 5), (.bslice 1 [(.sc (.int .u8 0))] 0 []), none⟩, ⟨(some 6), (.mov (.tmp 0)), none⟩, ⟨(some 7), (.app 1 1 (.tmp 5) (.tmp 6)), none⟩, ⟨(some 2), (.mov (.tmp 7)), none⟩] false []) .ret)))
def r92 : List ARes := [(.tmp 2)]
def c93L0 : ACode := (.seq (.region [⟨(some 12), (.bin .lss 3 (.tmp 11) (.tmp 10)), none⟩] false []) (.seq (.cond (.tmp 12) .skip (.exit 0)) (.seq (.block 1 (.seq (.region [⟨(some 13), (.iaddr none 1 (.tmp 9) (.tmp 11)), none⟩, ⟨(some 14), (.load false 1 (.tmp 13)), none⟩, ⟨(some 5), (.mov (.tmp 14)), none⟩] false []) (.seq (.region [⟨(some 15), (.mov (.tmp 3)), none⟩, ⟨(some 16), (.mov (.tmp 5)), none⟩, ⟨(some 17), (.len 0 (.tmp 16)), none⟩, ⟨(some 18), (.bin .add 3 (.tmp 15) (.tmp 17)), none⟩, ⟨(some 3), (.mov (.tmp 18)), none⟩] false []) (.seq (.region [⟨(some 19), (.mov (.tmp 3)), none⟩, ⟨(some 20), (.bin .lss 3 (.tmp 19) (.const (.int .i64 0))), none⟩] false []) (.cond (.tmp 20) (.region [⟨(some 21), .stop, none⟩, ⟨none, .stop, none⟩] false []) .skip))))) (.region [⟨(some 22), (.bin .add 3 (.tmp 11) (.const (.int .i64 1))), none⟩, ⟨(some 11), (.mov (.tmp 22)), none⟩] false []))))
def c93L1 : ACode := (.seq (.region [⟨(some 28), (.bin .lss 3 (.tmp 27) (.tmp 26)), none⟩] false []) (.seq (.cond (.tmp 28) .skip (.exit 2)) (.seq (.block 3 (.seq (.region [⟨(some 29), (.iaddr none 1 (.tmp 25) (.tmp 27)), none⟩, ⟨(some 30), (.load false 1 (.tmp 29)), none⟩, ⟨(some 8), (.mov (.tmp 30)), none⟩] false []) (.region [⟨(some 31), (.mov (.tmp 6)), none⟩, ⟨(some 32), (.mov (.tmp 8)), none⟩, ⟨(some 33), (.app 4 64 (.tmp 31) (.tmp 32)), none⟩, ⟨(some 6), (.mov (.tmp 33)), none⟩] false []))) (.region [⟨(some 34), (.bin .add 3 (.tmp 27) (.const (.int .i64 1))), none⟩, ⟨(some 27), (.mov (.tmp 34)), none⟩] false []))))
def c93R2 : ACode := (.seq (.region [⟨(some 35), (.mov (.tmp 6)), none⟩, ⟨(some 2), (.mov (.tmp 35)), none⟩] false []) .ret)
def c93R3 : ACode := (.seq (.region [⟨(some 23), (.mov (.tmp 3)), none⟩, ⟨(some 24), (.call (.func 147) [(.const (.slice none 0 0)), (.tmp 23)]), none⟩, ⟨(some 6), (.mov (.tmp 24)), none⟩] false []) (.seq (.seq (.region [⟨(some 25), (.mov (.tmp 0)), none⟩, ⟨(some 26), (.len 0 (.tmp 25)), none⟩, ⟨(some 27), (.mov (.const (.int .i64 0))), none⟩] false []) (.block 2 (.loop c93L1))) c93R2))
def c93 : ACode := (.seq (.region [⟨(some 2), (.mov (.const (.slice none 0 0))), none⟩] false []) (.seq (.region [⟨(some 3), (.mov (.const (.int .i64 0))), none⟩] false []) (.seq (.seq (.region [⟨(some 9), (.mov (.tmp 0)), none⟩, ⟨(some 10), (.len 0 (.tmp 9)), none⟩, ⟨(some 11), (.mov (.const (.int .i64 0))), none⟩] false []) (.block 0 (.loop c93L0))) c93R3)))
def r93 : List ARes := [(.tmp 2)]
def c94L0 : ACode := (.seq (.region [⟨(some 12), (.bin .lss 3 (.tmp 11) (.tmp 10)), none⟩] false []) (.seq (.cond (.tmp 12) .skip (.exit 0)) (.seq (.block 1 (.seq (.region [⟨(some 13), (.iaddr none 1 (.tmp 9) (.tmp 11)), none⟩, ⟨(some 14), (.load false 1 (.tmp 13)), none⟩, ⟨(some 5), (.mov (.tmp 14)), none⟩] false []) (.seq (.region [⟨(some 15), (.mov (.tmp 3)), none⟩, ⟨(some 16), (.mov (.tmp 5)), none⟩, ⟨(some 17), (.len 0 (.tmp 16)), none⟩, ⟨(some 18), (.bin .add 3 (.tmp 15) (.tmp 17)), none⟩, ⟨(some 3), (.mov (.tmp 18)), none⟩] false []) (.seq (.region [⟨(some 19), (.mov (.tmp 3)), none⟩, ⟨(some 20), (.bin .lss 3 (.tmp 19) (.const (.int .i64 0))), none⟩] false []) (.cond (.tmp 20) (.region [⟨(some 21), .stop, none⟩, ⟨none, .stop, none⟩] false []) .skip))))) (.region [⟨(some 22), (.bin .add 3 (.tmp 11) (.const (.int .i64 1))), none⟩, ⟨(some 11), (.mov (.tmp 22)), none⟩] false []))))
def c94L1 : ACode := (.seq (.region [⟨(some 28), (.bin .lss 3 (.tmp 27) (.tmp 26)), none⟩] false []) (.seq (.cond (.tmp 28) .skip (.exit 2)) (.seq (.block 3 (.seq (.region [⟨(some 29), (.iaddr none 1 (.tmp 25) (.tmp 27)), none⟩, ⟨(some 30), (.load false 1 (.tmp 29)), none⟩, ⟨(some 8), (.mov (.tmp 30)), none⟩] false []) (.region [⟨(some 31), (.mov (.tmp 6)), none⟩, ⟨(some 32), (.mov (.tmp 8)), none⟩, ⟨(some 33), (.app 2 32 (.tmp 31) (.tmp 32)), none⟩, ⟨(some 6), (.mov (.tmp 33)), none⟩] false []))) (.region [⟨(some 34), (.bin .add 3 (.tmp 27) (.const (.int .i64 1))), none⟩, ⟨(some 27), (.mov (.tmp 34)), none⟩] false []))))
def c94R2 : ACode := (.seq (.region [⟨(some 35), (.mov (.tmp 6)), none⟩, ⟨(some 2), (.mov (.tmp 35)), none⟩] false []) .ret)
def c94R3 : ACode := (.seq (.region [⟨(some 23), (.mov (.tmp 3)), none⟩, ⟨(some 24), (.call (.func 148) [(.const (.slice none 0 0)), (.tmp 23)]), none⟩, ⟨(some 6), (.mov (.tmp 24)), none⟩] false []) (.seq (.seq (.region [⟨(some 25), (.mov (.tmp 0)), none⟩, ⟨(some 26), (.len 0 (.tmp 25)), none⟩, ⟨(some 27), (.mov (.const (.int .i64 0))), none⟩] false []) (.block 2 (.loop c94L1))) c94R2))
def c94 : ACode := (.seq (.region [⟨(some 2), (.mov (.const (.slice none 0 0))), none⟩] false []) (.seq (.region [⟨(some 3), (.mov (.const (.int .i64 0))), none⟩] false []) (.seq (.seq (.region [⟨(some 9), (.mov (.tmp 0)), none⟩, ⟨(some 10), (.len 0 (.tmp 9)), none⟩, ⟨(some 11), (.mov (.const (.int .i64 0))), none⟩] false []) (.block 0 (.loop c94L0))) c94R3)))
def r94 : List ARes := [(.tmp 2)]
def c95 : ACode := (.seq (.region [⟨(some 2), (.box 2 (.tmp 0)), none⟩, ⟨(some 3), (.box 2 (.tmp 1)), none⟩, ⟨(some 4), (.mov (.const (.bool false))), none⟩] false []) (.seq (.region [⟨(some 5), (.faddr 0 (.tmp 2)), none⟩, ⟨(some 6), (.load false 1 (.tmp 5)), none⟩, ⟨(some 7), (.faddr 0 (.tmp 3)), none⟩, ⟨(some 8), (.load false 1 (.tmp 7)), none⟩, ⟨(some 9), (.call (.func 23) [(.tmp 6), (.tmp 8)]), none⟩, ⟨(some 10), (.mov (.tmp 9)), none⟩, ⟨(some 11), (.faddr 1 (.tmp 2)), (some ((some 10), true))⟩, ⟨(some 12), (.load false 1 (.tmp 11)), (some ((some 10), true))⟩, ⟨(some 13), (.faddr 1 (.tmp 3)), (some ((some 10), true))⟩, ⟨(some 14), (.load false 1 (.tmp 13)), (some ((some 10), true))⟩, ⟨(some 15), (.bin .eql 3 (.tmp 12) (.tmp 14)), (some ((some 10), true))⟩, ⟨(some 16), (.pick (.tmp 10) (.tmp 15) (.const (.bool false))), none⟩, ⟨(some 4), (.mov (.tmp 16)), none⟩] false []) .ret))
def r95 : List ARes := [(.tmp 4)]
def c96L0 : ACode := (.seq (.region [⟨(some 18), (.bin .lss 3 (.tmp 17) (.tmp 16)), none⟩] false []) (.seq (.cond (.tmp 18) .skip (.exit 0)) (.seq (.block 1 (.seq (.region [⟨(some 19), (.mov (.tmp 17)), none⟩, ⟨(some 20), (.iaddr none 4 (.tmp 15) (.tmp 17)), none⟩, ⟨(some 21), (.load true 4 (.tmp 20)), none⟩, ⟨(some 8), (.alloc [(.sc (.slice none 0 0)), (.sc (.slice none 0 0)), (.sc (.int .i64 0)), (.sc (.int .i64 0))]), none⟩, ⟨(some 7), (.mov (.tmp 19)), none⟩, ⟨none, (.store 4 (.tmp 8) (.tmp 21)), none⟩] false []) (.seq (.region [⟨(some 22), (.mov (.tmp 1)), none⟩, ⟨(some 23), (.mov (.tmp 7)), none⟩, ⟨(some 24), (.iaddr none 4 (.tmp 22) (.tmp 23)), none⟩, ⟨(some 25), (.load true 4 (.tmp 24)), none⟩, ⟨(some 9), (.alloc [(.sc (.slice none 0 0)), (.sc (.slice none 0 0)), (.sc (.int .i64 0)), (.sc (.int .i64 0))]), none⟩, ⟨none, (.store 4 (.tmp 9) (.tmp 25)), none⟩] false []) (.seq (.region [⟨(some 26), (.mov (.tmp 2)), none⟩, ⟨(some 27), (.load true 4 (.tmp 8)), none⟩, ⟨(some 28), (.load true 4 (.tmp 9)), none⟩, ⟨(some 29), (.call (.tmp 26) [(.tmp 27), (.tmp 28)]), none⟩, ⟨(some 30), (.un .not (.tmp 29)), none⟩] false []) (.cond (.tmp 30) (.seq (.region [⟨(some 6), (.mov (.const (.bool false))), none⟩] false []) .ret) .skip))))) (.region [⟨(some 31), (.bin .add 3 (.tmp 17) (.const (.int .i64 1))), none⟩, ⟨(some 17), (.mov (.tmp 31)), none⟩] false []))))
def c96R1 : ACode := (.seq (.region [⟨(some 6), (.mov (.const (.bool true))), none⟩] false []) .ret)
def c96 : ACode := (.seq (.region [⟨(some 6), (.mov (.const (.bool false))), none⟩] false []) (.seq (.seq (.region [⟨(some 10), (.mov (.tmp 0)), none⟩, ⟨(some 11), (.len 0 (.tmp 10)), none⟩, ⟨(some 12), (.mov (.tmp 1)), none⟩, ⟨(some 13), (.len 0 (.tmp 12)), none⟩, ⟨(some 14), (.bin .neq 3 (.tmp 11) (.tmp 13)), none⟩] false []) (.cond (.tmp 14) (.seq (.region [⟨(some 6), (.mov (.const (.bool false))), none⟩] false []) .ret) .skip)) (.seq (.seq (.region [⟨(some 15), (.mov (.tmp 0)), none⟩, ⟨(some 16), (.len 0 (.tmp 15)), none⟩, ⟨(some 17), (.mov (.const (.int .i64 0))), none⟩] false []) (.block 0 (.loop c96L0))) c96R1)))
def r96 : List ARes := [(.tmp 6)]
def c97 : ACode := (.seq (.region [⟨(some 2), (.box 4 (.tmp 0)), none⟩, ⟨(some 3), (.box 4 (.tmp 1)), none⟩, ⟨(some 4), (.mov (.const (.bool false))), none⟩] false []) (.seq (.region [⟨(some 5), (.faddr 0 (.tmp 2)), none⟩, ⟨(some 6), (.load false 1 (.tmp 5)), none⟩, ⟨(some 7), (.faddr 0 (.tmp 3)), none⟩, ⟨(some 8), (.load false 1 (.tmp 7)), none⟩, ⟨(some 9), (.call (.func 23) [(.tmp 6), (.tmp 8)]), none⟩, ⟨(some 10), (.mov (.tmp 9)), none⟩, ⟨(some 11), (.faddr 1 (.tmp 2)), (some ((some 10), true))⟩, ⟨(some 12), (.load false 1 (.tmp 11)), (some ((some 10), true))⟩, ⟨(some 13), (.faddr 1 (.tmp 3)), (some ((some 10), true))⟩, ⟨(some 14), (.load false 1 (.tmp 13)), (some ((some 10), true))⟩, ⟨(some 15), (.call (.func 23) [(.tmp 12), (.tmp 14)]), (some ((some 10), true))⟩, ⟨(some 16), (.pick (.tmp 10) (.tmp 15) (.const (.bool false))), none⟩, ⟨(some 17), (.mov (.tmp 16)), none⟩, ⟨(some 18), (.faddr 2 (.tmp 2)), (some ((some 17), true))⟩, ⟨(some 19), (.load false 1 (.tmp 18)), (some ((some 17), true))⟩, ⟨(some 20), (.faddr 2 (.tmp 3)), (some ((some 17), true))⟩, ⟨(some 21), (.load false 1 (.tmp 20)), (some ((some 17), true))⟩, ⟨(some 22), (.bin .eql 3 (.tmp 19) (.tmp 21)), (some ((some 17), true))⟩, ⟨(some 23), (.pick (.tmp 17) (.tmp 22) (.const (.bool false))), none⟩, ⟨(some 24), (.mov (.tmp 23)), none⟩, ⟨(some 25), (.faddr 3 (.tmp 2)), (some ((some 24), true))⟩, ⟨(some 26), (.load false 1 (.tmp 25)), (some ((some 24), true))⟩, ⟨(some 27), (.faddr 3 (.tmp 3)), (some ((some 24), true))⟩, ⟨(some 28), (.load false 1 (.tmp 27)), (some ((some 24), true))⟩, ⟨(some 29), (.bin .eql 3 (.tmp 26) (.tmp 28)), (some ((some 24), true))⟩, ⟨(some 30), (.pick (.tmp 24) (.tmp 29) (.const (.bool false))), none⟩, ⟨(some 4), (.mov (.tmp 30)), none⟩] false []) .ret))
def r97 : List ARes := [(.tmp 4)]
def c98L0 : ACode := (.seq (.region [⟨(some 18), (.bin .lss 3 (.tmp 17) (.tmp 16)), none⟩] false []) (.seq (.cond (.tmp 18) .skip (.exit 0)) (.seq (.block 1 (.seq (.region [⟨(some 19), (.mov (.tmp 17)), none⟩, ⟨(some 20), (.iaddr none 2 (.tmp 15) (.tmp 17)), none⟩, ⟨(some 21), (.load true 2 (.tmp 20)), none⟩, ⟨(some 8), (.alloc [(.sc (.slice none 0 0)), (.sc (.int .i64 0))]), none⟩, ⟨(some 7), (.mov (.tmp 19)), none⟩, ⟨none, (.store 2 (.tmp 8) (.tmp 21)), none⟩] false []) (.seq (.region [⟨(some 22), (.mov (.tmp 1)), none⟩, ⟨(some 23), (.mov (.tmp 7)), none⟩, ⟨(some 24), (.iaddr none 2 (.tmp 22) (.tmp 23)), none⟩, ⟨(some 25), (.load true 2 (.tmp 24)), none⟩, ⟨(some 9), (.alloc [(.sc (.slice none 0 0)), (.sc (.int .i64 0))]), none⟩, ⟨none, (.store 2 (.tmp 9) (.tmp 25)), none⟩] false []) (.seq (.region [⟨(some 26), (.mov (.tmp 2)), none⟩, ⟨(some 27), (.load true 2 (.tmp 8)), none⟩, ⟨(some 28), (.load true 2 (.tmp 9)), none⟩, ⟨(some 29), (.call (.tmp 26) [(.tmp 27), (.tmp 28)]), none⟩, ⟨(some 30), (.un .not (.tmp 29)), none⟩] false []) (.cond (.tmp 30) (.seq (.region [⟨(some 6), (.mov (.const (.bool false))), none⟩] false []) .ret) .skip))))) (.region [⟨(some 31), (.bin .add 3 (.tmp 17) (.const (.int .i64 1))), none⟩, ⟨(some 17), (.mov (.tmp 31)), none⟩] false []))))
def c98R1 : ACode := (.seq (.region [⟨(some 6), (.mov (.const (.bool true))), none⟩] false []) .ret)
def c98 : ACode := (.seq (.region [⟨(some 6), (.mov (.const (.bool false))), none⟩] false []) (.seq (.seq (.region [⟨(some 10), (.mov (.tmp 0)), none⟩, ⟨(some 11), (.len 0 (.tmp 10)), none⟩, ⟨(some 12), (.mov (.tmp 1)), none⟩, ⟨(some 13), (.len 0 (.tmp 12)), none⟩, ⟨(some 14), (.bin .neq 3 (.tmp 11) (.tmp 13)), none⟩] false []) (.cond (.tmp 14) (.seq (.region [⟨(some 6), (.mov (.const (.bool false))), none⟩] false []) .ret) .skip)) (.seq (.seq (.region [⟨(some 15), (.mov (.tmp 0)), none⟩, ⟨(some 16), (.len 0 (.tmp 15)), none⟩, ⟨(some 17), (.mov (.const (.int .i64 0))), none⟩] false []) (.block 0 (.loop c98L0))) c98R1)))
def r98 : List ARes := [(.tmp 6)]
def c99 : ACode := (.seq (.region [⟨(some 2), (.mov (.const (.int .i64 0))), none⟩] false []) (.seq (.region [⟨(some 3), (.mov (.tmp 0)), none⟩, ⟨(some 4), (.call (.func 149) [(.tmp 3), (.const (.int .i64 16)), (.const (.int .i64 20)), (.const (.int .i64 24))]), none⟩, ⟨(some 2), (.mov (.tmp 4)), none⟩] false []) .ret))
def r99 : List ARes := [(.tmp 2)]
def c100 : ACode := (.seq (.region [⟨(some 2), (.mov (.const (.int .i64 0))), none⟩] false []) (.seq (.region [⟨(some 3), (.mov (.tmp 0)), none⟩, ⟨(some 4), (.call (.func 149) [(.tmp 3), (.const (.int .i64 400)), (.const (.int .i64 800)), (.const (.int .i64 1600))]), none⟩, ⟨(some 2), (.mov (.tmp 4)), none⟩] false []) .ret))
def r100 : List ARes := [(.tmp 2)]
def c101 : ACode := (.seq (.region [⟨(some 2), (.mov (.const (.slice none 0 0))), none⟩] false []) (.seq (.seq (.region [⟨(some 3), (.mov (.tmp 0)), none⟩, ⟨(some 4), (.isnil false 0 (.tmp 3)), none⟩] false []) (.cond (.tmp 4) (.seq (.region [⟨(some 2), (.mov (.const (.slice none 0 0))), none⟩] false []) .ret) .skip)) (.seq (.region [⟨(some 5), (.bslice 4 [(.sc (.slice none 0 0)), (.sc (.slice none 0 0)), (.sc (.int .i64 0)), (.sc (.int .i64 0))] 0 []), none⟩, ⟨(some 6), (.mov (.tmp 0)), none⟩, ⟨(some 7), (.app 4 64 (.tmp 5) (.tmp 6)), none⟩, ⟨(some 2), (.mov (.tmp 7)), none⟩] false []) .ret)))
def r101 : List ARes := [(.tmp 2)]
def c102 : ACode := (.seq (.region [⟨(some 6), (.mov (.const (.slice none 0 0))), none⟩] false []) (.seq (.region [⟨(some 10), (.mov (.tmp 0)), none⟩, ⟨(some 11), (.mov (.tmp 1)), none⟩, ⟨(some 12), (.slice 4 (.tmp 10) (some (.tmp 11)) none none), none⟩] false []) (.seq (.region [⟨(some 13), (.mov (.tmp 2)), none⟩, ⟨(some 14), (.len 0 (.tmp 13)), none⟩, ⟨(some 7), (.mov (.tmp 14)), none⟩] false []) (.seq (.seq (.region [⟨(some 15), (.mov (.tmp 7)), none⟩, ⟨(some 16), (.bin .eql 3 (.tmp 15) (.const (.int .i64 0))), none⟩] false []) (.cond (.tmp 16) (.seq (.region [⟨(some 17), (.mov (.tmp 0)), none⟩, ⟨(some 6), (.mov (.tmp 17)), none⟩] false []) .ret) .skip)) (.seq (.region [⟨(some 18), (.mov (.tmp 0)), none⟩, ⟨(some 19), (.len 0 (.tmp 18)), none⟩, ⟨(some 8), (.mov (.tmp 19)), none⟩] false []) (.seq (.seq (.region [⟨(some 20), (.mov (.tmp 1)), none⟩, ⟨(some 21), (.mov (.tmp 8)), none⟩, ⟨(some 22), (.bin .eql 3 (.tmp 20) (.tmp 21)), none⟩] false []) (.cond (.tmp 22) (.seq (.region [⟨(some 23), (.mov (.tmp 0)), none⟩, ⟨(some 24), (.mov (.tmp 2)), none⟩, ⟨(some 25), (.app 4 64 (.tmp 23) (.tmp 24)), none⟩, ⟨(some 6), (.mov (.tmp 25)), none⟩] false []) .ret) .skip)) (.seq (.seq (.region [⟨(some 26), (.mov (.tmp 8)), none⟩, ⟨(some 27), (.mov (.tmp 7)), none⟩, ⟨(some 28), (.bin .add 3 (.tmp 26) (.tmp 27)), none⟩, ⟨(some 29), (.mov (.tmp 0)), none⟩, ⟨(some 30), (.cap (.tmp 29)), none⟩, ⟨(some 31), (.bin .gtr 3 (.tmp 28) (.tmp 30)), none⟩] false []) (.cond (.tmp 31) (.seq (.region [⟨(some 32), (.mov (.tmp 0)), none⟩, ⟨(some 33), (.mov (.tmp 1)), none⟩, ⟨(some 34), (.slice 4 (.tmp 32) none (some (.tmp 33)) none), none⟩, ⟨(some 35), (.mov (.tmp 8)), none⟩, ⟨(some 36), (.mov (.tmp 7)), none⟩, ⟨(some 37), (.bin .add 3 (.tmp 35) (.tmp 36)), none⟩, ⟨(some 38), (.mov (.tmp 1)), none⟩, ⟨(some 39), (.bin .sub 3 (.tmp 37) (.tmp 38)), none⟩, ⟨(some 40), (.appz 4 64 [(.sc (.slice none 0 0)), (.sc (.slice none 0 0)), (.sc (.int .i64 0)), (.sc (.int .i64 0))] (.tmp 34) (.tmp 39)), none⟩, ⟨(some 9), (.mov (.tmp 40)), none⟩] false []) (.seq (.region [⟨(some 41), (.mov (.tmp 9)), none⟩, ⟨(some 42), (.mov (.tmp 1)), none⟩, ⟨(some 43), (.slice 4 (.tmp 41) (some (.tmp 42)) none none), none⟩, ⟨(some 44), (.mov (.tmp 2)), none⟩, ⟨(some 45), (.copy 4 (.tmp 43) (.tmp 44)), none⟩] false []) (.seq (.region [⟨(some 46), (.mov (.tmp 9)), none⟩, ⟨(some 47), (.mov (.tmp 1)), none⟩, ⟨(some 48), (.mov (.tmp 7)), none⟩, ⟨(some 49), (.bin .add 3 (.tmp 47) (.tmp 48)), none⟩, ⟨(some 50), (.slice 4 (.tmp 46) (some (.tmp 49)) none none), none⟩, ⟨(some 51), (.mov (.tmp 0)), none⟩, ⟨(some 52), (.mov (.tmp 1)), none⟩, ⟨(some 53), (.slice 4 (.tmp 51) (some (.tmp 52)) none none), none⟩, ⟨(some 54), (.copy 4 (.tmp 50) (.tmp 53)), none⟩] true []) (.seq (.region [⟨(some 55), (.mov (.tmp 9)), none⟩, ⟨(some 6), (.mov (.tmp 55)), none⟩] false []) .ret)))) .skip)) (.seq (.region [⟨(some 56), (.mov (.tmp 0)), none⟩, ⟨(some 57), (.mov (.tmp 8)), none⟩, ⟨(some 58), (.mov (.tmp 7)), none⟩, ⟨(some 59), (.bin .add 3 (.tmp 57) (.tmp 58)), none⟩, ⟨(some 60), (.slice 4 (.tmp 56) none (some (.tmp 59)) none), none⟩, ⟨(some 0), (.mov (.tmp 60)), none⟩] false []) (.seq (.seq (.region [⟨(some 61), (.mov (.tmp 2)), none⟩, ⟨(some 62), (.mov (.tmp 0)), none⟩, ⟨(some 63), (.mov (.tmp 1)), none⟩, ⟨(some 64), (.mov (.tmp 7)), none⟩, ⟨(some 65), (.bin .add 3 (.tmp 63) (.tmp 64)), none⟩, ⟨(some 66), (.slice 4 (.tmp 62) (some (.tmp 65)) none none), none⟩, ⟨(some 67), (.call (.func 150) [(.tmp 61), (.tmp 66)]), none⟩, ⟨(some 68), (.un .not (.tmp 67)), none⟩] false []) (.cond (.tmp 68) (.seq (.region [⟨(some 69), (.mov (.tmp 0)), none⟩, ⟨(some 70), (.mov (.tmp 1)), none⟩, ⟨(some 71), (.mov (.tmp 7)), none⟩, ⟨(some 72), (.bin .add 3 (.tmp 70) (.tmp 71)), none⟩, ⟨(some 73), (.slice 4 (.tmp 69) (some (.tmp 72)) none none), none⟩, ⟨(some 74), (.mov (.tmp 0)), none⟩, ⟨(some 75), (.mov (.tmp 1)), none⟩, ⟨(some 76), (.slice 4 (.tmp 74) (some (.tmp 75)) none none), none⟩, ⟨(some 77), (.copy 4 (.tmp 73) (.tmp 76)), none⟩] true []) (.seq (.region [⟨(some 78), (.mov (.tmp 0)), none⟩, ⟨(some 79), (.mov (.tmp 1)), none⟩, ⟨(some 80), (.slice 4 (.tmp 78) (some (.tmp 79)) none none), none⟩, ⟨(some 81), (.mov (.tmp 2)), none⟩, ⟨(some 82), (.copy 4 (.tmp 80) (.tmp 81)), none⟩] false []) (.seq (.region [⟨(some 83), (.mov (.tmp 0)), none⟩, ⟨(some 6), (.mov (.tmp 83)), none⟩] false []) .ret))) .skip)) (.seq (.region [⟨(some 84), (.mov (.tmp 0)), none⟩, ⟨(some 85), (.mov (.tmp 8)), none⟩, ⟨(some 86), (.slice 4 (.tmp 84) (some (.tmp 85)) none none), none⟩, ⟨(some 87), (.mov (.tmp 2)), none⟩, ⟨(some 88), (.copy 4 (.tmp 86) (.tmp 87)), none⟩] false []) (.seq (.region [⟨(some 89), (.mov (.tmp 0)), none⟩, ⟨(some 90), (.mov (.tmp 1)), none⟩, ⟨(some 91), (.slice 4 (.tmp 89) (some (.tmp 90)) none none), none⟩, ⟨(some 92), (.mov (.tmp 7)), none⟩, ⟨(some 93), (.call (.func 151) [(.tmp 91), (.tmp 92)]), none⟩] false []) (.seq (.region [⟨(some 94), (.mov (.tmp 0)), none⟩, ⟨(some 6), (.mov (.tmp 94)), none⟩] false []) .ret))))))))))))
def r102 : List ARes := [(.tmp 6)]
def c103 : ACode := (.seq (.region [⟨(some 8), (.mov (.const (.slice none 0 0))), none⟩] false []) (.seq (.region [⟨(some 15), (.mov (.tmp 0)), none⟩, ⟨(some 16), (.mov (.tmp 1)), none⟩, ⟨(some 17), (.mov (.tmp 2)), none⟩, ⟨(some 18), (.slice 2 (.tmp 15) (some (.tmp 16)) (some (.tmp 17)) none), none⟩] false []) (.seq (.seq (.region [⟨(some 19), (.mov (.tmp 1)), none⟩, ⟨(some 20), (.mov (.tmp 2)), none⟩, ⟨(some 21), (.bin .eql 3 (.tmp 19) (.tmp 20)), none⟩] false []) (.cond (.tmp 21) (.seq (.region [⟨(some 22), (.mov (.tmp 0)), none⟩, ⟨(some 23), (.mov (.tmp 1)), none⟩, ⟨(some 24), (.mov (.tmp 3)), none⟩, ⟨(some 25), (.call (.func 152) [(.tmp 22), (.tmp 23), (.tmp 24)]), none⟩, ⟨(some 8), (.mov (.tmp 25)), none⟩] false []) .ret) .skip)) (.seq (.seq (.region [⟨(some 26), (.mov (.tmp 2)), none⟩, ⟨(some 27), (.mov (.tmp 0)), none⟩, ⟨(some 28), (.len 0 (.tmp 27)), none⟩, ⟨(some 29), (.bin .eql 3 (.tmp 26) (.tmp 28)), none⟩] false []) (.cond (.tmp 29) (.seq (.region [⟨(some 30), (.mov (.tmp 0)), none⟩, ⟨(some 31), (.mov (.tmp 1)), none⟩, ⟨(some 32), (.slice 2 (.tmp 30) none (some (.tmp 31)) none), none⟩, ⟨(some 33), (.mov (.tmp 3)), none⟩, ⟨(some 34), (.app 2 32 (.tmp 32) (.tmp 33)), none⟩, ⟨(some 9), (.mov (.tmp 34)), none⟩] false []) (.seq (.seq (.region [⟨(some 35), (.mov (.tmp 9)), none⟩, ⟨(some 36), (.len 0 (.tmp 35)), none⟩, ⟨(some 37), (.mov (.tmp 0)), none⟩, ⟨(some 38), (.len 0 (.tmp 37)), none⟩, ⟨(some 39), (.bin .lss 3 (.tmp 36) (.tmp 38)), none⟩] false []) (.cond (.tmp 39) (.region [⟨(some 40), (.mov (.tmp 0)), none⟩, ⟨(some 41), (.mov (.tmp 9)), none⟩, ⟨(some 42), (.len 0 (.tmp 41)), none⟩, ⟨(some 43), (.slice 2 (.tmp 40) (some (.tmp 42)) none none), none⟩, ⟨none, (.clr 2 [(.sc (.slice none 0 0)), (.sc (.int .i64 0))] (.tmp 43)), none⟩] false []) .skip)) (.seq (.region [⟨(some 44), (.mov (.tmp 9)), none⟩, ⟨(some 8), (.mov (.tmp 44)), none⟩] false []) .ret))) .skip)) (.seq (.region [⟨(some 45), (.mov (.tmp 0)), none⟩, ⟨(some 46), (.mov (.tmp 1)), none⟩, ⟨(some 47), (.slice 2 (.tmp 45) none (some (.tmp 46)) none), none⟩, ⟨(some 48), (.len 0 (.tmp 47)), none⟩, ⟨(some 49), (.mov (.tmp 3)), none⟩, ⟨(some 50), (.len 0 (.tmp 49)), none⟩, ⟨(some 51), (.bin .add 3 (.tmp 48) (.tmp 50)), none⟩, ⟨(some 52), (.mov (.tmp 0)), none⟩, ⟨(some 53), (.mov (.tmp 2)), none⟩, ⟨(some 54), (.slice 2 (.tmp 52) (some (.tmp 53)) none none), none⟩, ⟨(some 55), (.len 0 (.tmp 54)), none⟩, ⟨(some 56), (.bin .add 3 (.tmp 51) (.tmp 55)), none⟩, ⟨(some 10), (.mov (.tmp 56)), none⟩] true []) (.seq (.seq (.region [⟨(some 57), (.mov (.tmp 10)), none⟩, ⟨(some 58), (.mov (.tmp 0)), none⟩, ⟨(some 59), (.cap (.tmp 58)), none⟩, ⟨(some 60), (.bin .gtr 3 (.tmp 57) (.tmp 59)), none⟩] false []) (.cond (.tmp 60) (.seq (.region [⟨(some 61), (.mov (.tmp 0)), none⟩, ⟨(some 62), (.mov (.tmp 1)), none⟩, ⟨(some 63), (.slice 2 (.tmp 61) none (some (.tmp 62)) none), none⟩, ⟨(some 64), (.mov (.tmp 10)), none⟩, ⟨(some 65), (.mov (.tmp 1)), none⟩, ⟨(some 66), (.bin .sub 3 (.tmp 64) (.tmp 65)), none⟩, ⟨(some 67), (.appz 2 32 [(.sc (.slice none 0 0)), (.sc (.int .i64 0))] (.tmp 63) (.tmp 66)), none⟩, ⟨(some 11), (.mov (.tmp 67)), none⟩] false []) (.seq (.region [⟨(some 68), (.mov (.tmp 11)), none⟩, ⟨(some 69), (.mov (.tmp 1)), none⟩, ⟨(some 70), (.slice 2 (.tmp 68) (some (.tmp 69)) none none), none⟩, ⟨(some 71), (.mov (.tmp 3)), none⟩, ⟨(some 72), (.copy 2 (.tmp 70) (.tmp 71)), none⟩] false []) (.seq (.region [⟨(some 73), (.mov (.tmp 11)), none⟩, ⟨(some 74), (.mov (.tmp 1)), none⟩, ⟨(some 75), (.mov (.tmp 3)), none⟩, ⟨(some 76), (.len 0 (.tmp 75)), none⟩, ⟨(some 77), (.bin .add 3 (.tmp 74) (.tmp 76)), none⟩, ⟨(some 78), (.slice 2 (.tmp 73) (some (.tmp 77)) none none), none⟩, ⟨(some 79), (.mov (.tmp 0)), none⟩, ⟨(some 80), (.mov (.tmp 2)), none⟩, ⟨(some 81), (.slice 2 (.tmp 79) (some (.tmp 80)) none none), none⟩, ⟨(some 82), (.copy 2 (.tmp 78) (.tmp 81)), none⟩] true []) (.seq (.region [⟨(some 83), (.mov (.tmp 11)), none⟩, ⟨(some 8), (.mov (.tmp 83)), none⟩] false []) .ret)))) .skip)) (.seq (.region [⟨(some 84), (.mov (.tmp 0)), none⟩, ⟨(some 85), (.mov (.tmp 10)), none⟩, ⟨(some 86), (.slice 2 (.tmp 84) none (some (.tmp 85)) none), none⟩, ⟨(some 12), (.mov (.tmp 86)), none⟩] false []) (.seq (.seq (.region [⟨(some 87), (.mov (.tmp 1)), none⟩, ⟨(some 88), (.mov (.tmp 3)), none⟩, ⟨(some 89), (.len 0 (.tmp 88)), none⟩, ⟨(some 90), (.bin .add 3 (.tmp 87) (.tmp 89)), none⟩, ⟨(some 91), (.mov (.tmp 2)), none⟩, ⟨(some 92), (.bin .leq 3 (.tmp 90) (.tmp 91)), none⟩] false []) (.cond (.tmp 92) (.seq (.region [⟨(some 93), (.mov (.tmp 12)), none⟩, ⟨(some 94), (.mov (.tmp 1)), none⟩, ⟨(some 95), (.slice 2 (.tmp 93) (some (.tmp 94)) none none), none⟩, ⟨(some 96), (.mov (.tmp 3)), none⟩, ⟨(some 97), (.copy 2 (.tmp 95) (.tmp 96)), none⟩] false []) (.seq (.region [⟨(some 98), (.mov (.tmp 12)), none⟩, ⟨(some 99), (.mov (.tmp 1)), none⟩, ⟨(some 100), (.mov (.tmp 3)), none⟩, ⟨(some 101), (.len 0 (.tmp 100)), none⟩, ⟨(some 102), (.bin .add 3 (.tmp 99) (.tmp 101)), none⟩, ⟨(some 103), (.slice 2 (.tmp 98) (some (.tmp 102)) none none), none⟩, ⟨(some 104), (.mov (.tmp 0)), none⟩, ⟨(some 105), (.mov (.tmp 2)), none⟩, ⟨(some 106), (.slice 2 (.tmp 104) (some (.tmp 105)) none none), none⟩, ⟨(some 107), (.copy 2 (.tmp 103) (.tmp 106)), none⟩] true []) (.seq (.region [⟨(some 108), (.mov (.tmp 0)), none⟩, ⟨(some 109), (.mov (.tmp 10)), none⟩, ⟨(some 110), (.slice 2 (.tmp 108) (some (.tmp 109)) none none), none⟩, ⟨none, (.clr 2 [(.sc (.slice none 0 0)), (.sc (.int .i64 0))] (.tmp 110)), none⟩] false []) (.seq (.region [⟨(some 111), (.mov (.tmp 12)), none⟩, ⟨(some 8), (.mov (.tmp 111)), none⟩] false []) .ret)))) .skip)) (.seq (.seq (.region [⟨(some 112), (.mov (.tmp 12)), none⟩, ⟨(some 113), (.mov (.tmp 1)), none⟩, ⟨(some 114), (.mov (.tmp 3)), none⟩, ⟨(some 115), (.len 0 (.tmp 114)), none⟩, ⟨(some 116), (.bin .add 3 (.tmp 113) (.tmp 115)), none⟩, ⟨(some 117), (.slice 2 (.tmp 112) (some (.tmp 116)) none none), none⟩, ⟨(some 118), (.mov (.tmp 3)), none⟩, ⟨(some 119), (.call (.func 153) [(.tmp 117), (.tmp 118)]), none⟩, ⟨(some 120), (.un .not (.tmp 119)), none⟩] false []) (.cond (.tmp 120) (.seq (.region [⟨(some 121), (.mov (.tmp 12)), none⟩, ⟨(some 122), (.mov (.tmp 1)), none⟩, ⟨(some 123), (.mov (.tmp 3)), none⟩, ⟨(some 124), (.len 0 (.tmp 123)), none⟩, ⟨(some 125), (.bin .add 3 (.tmp 122) (.tmp 124)), none⟩, ⟨(some 126), (.slice 2 (.tmp 121) (some (.tmp 125)) none none), none⟩, ⟨(some 127), (.mov (.tmp 0)), none⟩, ⟨(some 128), (.mov (.tmp 2)), none⟩, ⟨(some 129), (.slice 2 (.tmp 127) (some (.tmp 128)) none none), none⟩, ⟨(some 130), (.copy 2 (.tmp 126) (.tmp 129)), none⟩] true []) (.seq (.region [⟨(some 131), (.mov (.tmp 12)), none⟩, ⟨(some 132), (.mov (.tmp 1)), none⟩, ⟨(some 133), (.slice 2 (.tmp 131) (some (.tmp 132)) none none), none⟩, ⟨(some 134), (.mov (.tmp 3)), none⟩, ⟨(some 135), (.copy 2 (.tmp 133) (.tmp 134)), none⟩] false []) (.seq (.region [⟨(some 136), (.mov (.tmp 12)), none⟩, ⟨(some 8), (.mov (.tmp 136)), none⟩] false []) .ret))) .skip)) (.seq (.region [⟨(some 137), (.mov (.tmp 3)), none⟩, ⟨(some 138), (.len 0 (.tmp 137)), none⟩, ⟨(some 139), (.mov (.tmp 2)), none⟩, ⟨(some 140), (.mov (.tmp 1)), none⟩, ⟨(some 141), (.bin .sub 3 (.tmp 139) (.tmp 140)), none⟩, ⟨(some 142), (.bin .sub 3 (.tmp 138) (.tmp 141)), none⟩, ⟨(some 13), (.mov (.tmp 142)), none⟩] false []) (.seq (.seq (.region [⟨(some 143), (.mov (.tmp 12)), none⟩, ⟨(some 144), (.mov (.tmp 1)), none⟩, ⟨(some 145), (.mov (.tmp 2)), none⟩, ⟨(some 146), (.slice 2 (.tmp 143) (some (.tmp 144)) (some (.tmp 145)) none), none⟩, ⟨(some 147), (.mov (.tmp 3)), none⟩, ⟨(some 148), (.call (.func 153) [(.tmp 146), (.tmp 147)]), none⟩, ⟨(some 149), (.un .not (.tmp 148)), none⟩] false []) (.cond (.tmp 149) (.seq (.region [⟨(some 150), (.mov (.tmp 12)), none⟩, ⟨(some 151), (.mov (.tmp 1)), none⟩, ⟨(some 152), (.mov (.tmp 2)), none⟩, ⟨(some 153), (.slice 2 (.tmp 150) (some (.tmp 151)) (some (.tmp 152)) none), none⟩, ⟨(some 154), (.mov (.tmp 3)), none⟩, ⟨(some 155), (.mov (.tmp 13)), none⟩, ⟨(some 156), (.slice 2 (.tmp 154) (some (.tmp 155)) none none), none⟩, ⟨(some 157), (.copy 2 (.tmp 153) (.tmp 156)), none⟩] true []) (.seq (.region [⟨(some 158), (.mov (.tmp 12)), none⟩, ⟨(some 159), (.mov (.tmp 0)), none⟩, ⟨(some 160), (.len 0 (.tmp 159)), none⟩, ⟨(some 161), (.slice 2 (.tmp 158) (some (.tmp 160)) none none), none⟩, ⟨(some 162), (.mov (.tmp 3)), none⟩, ⟨(some 163), (.mov (.tmp 13)), none⟩, ⟨(some 164), (.slice 2 (.tmp 162) none (some (.tmp 163)) none), none⟩, ⟨(some 165), (.copy 2 (.tmp 161) (.tmp 164)), none⟩] true []) (.seq (.region [⟨(some 166), (.mov (.tmp 12)), none⟩, ⟨(some 167), (.mov (.tmp 1)), none⟩, ⟨(some 168), (.slice 2 (.tmp 166) (some (.tmp 167)) none none), none⟩, ⟨(some 169), (.mov (.tmp 13)), none⟩, ⟨(some 170), (.call (.func 154) [(.tmp 168), (.tmp 169)]), none⟩] false []) (.seq (.region [⟨(some 171), (.mov (.tmp 12)), none⟩, ⟨(some 8), (.mov (.tmp 171)), none⟩] false []) .ret)))) .skip)) (.seq (.seq (.region [⟨(some 172), (.mov (.tmp 12)), none⟩, ⟨(some 173), (.mov (.tmp 0)), none⟩, ⟨(some 174), (.len 0 (.tmp 173)), none⟩, ⟨(some 175), (.slice 2 (.tmp 172) (some (.tmp 174)) none none), none⟩, ⟨(some 176), (.mov (.tmp 3)), none⟩, ⟨(some 177), (.call (.func 153) [(.tmp 175), (.tmp 176)]), none⟩, ⟨(some 178), (.un .not (.tmp 177)), none⟩] false []) (.cond (.tmp 178) (.seq (.region [⟨(some 179), (.mov (.tmp 12)), none⟩, ⟨(some 180), (.mov (.tmp 0)), none⟩, ⟨(some 181), (.len 0 (.tmp 180)), none⟩, ⟨(some 182), (.slice 2 (.tmp 179) (some (.tmp 181)) none none), none⟩, ⟨(some 183), (.mov (.tmp 3)), none⟩, ⟨(some 184), (.mov (.tmp 13)), none⟩, ⟨(some 185), (.slice 2 (.tmp 183) none (some (.tmp 184)) none), none⟩, ⟨(some 186), (.copy 2 (.tmp 182) (.tmp 185)), none⟩] true []) (.seq (.region [⟨(some 187), (.mov (.tmp 12)), none⟩, ⟨(some 188), (.mov (.tmp 1)), none⟩, ⟨(some 189), (.mov (.tmp 2)), none⟩, ⟨(some 190), (.slice 2 (.tmp 187) (some (.tmp 188)) (some (.tmp 189)) none), none⟩, ⟨(some 191), (.mov (.tmp 3)), none⟩, ⟨(some 192), (.mov (.tmp 13)), none⟩, ⟨(some 193), (.slice 2 (.tmp 191) (some (.tmp 192)) none none), none⟩, ⟨(some 194), (.copy 2 (.tmp 190) (.tmp 193)), none⟩] true []) (.seq (.region [⟨(some 195), (.mov (.tmp 12)), none⟩, ⟨(some 196), (.mov (.tmp 1)), none⟩, ⟨(some 197), (.slice 2 (.tmp 195) (some (.tmp 196)) none none), none⟩, ⟨(some 198), (.mov (.tmp 13)), none⟩, ⟨(some 199), (.call (.func 154) [(.tmp 197), (.tmp 198)]), none⟩] false []) (.seq (.region [⟨(some 200), (.mov (.tmp 12)), none⟩, ⟨(some 8), (.mov (.tmp 200)), none⟩] false []) .ret)))) .skip)) (.seq (.region [⟨(some 201), (.mov (.tmp 3)), none⟩, ⟨(some 202), (.mov (.tmp 0)), none⟩, ⟨(some 203), (.mov (.tmp 2)), none⟩, ⟨(some 204), (.slice 2 (.tmp 202) (some (.tmp 203)) none none), none⟩, ⟨(some 205), (.call (.func 155) [(.tmp 201), (.tmp 204)]), none⟩, ⟨(some 14), (.mov (.tmp 205)), none⟩] false []) (.seq (.region [⟨(some 206), (.mov (.tmp 12)), none⟩, ⟨(some 207), (.mov (.tmp 1)), none⟩, ⟨(some 208), (.slice 2 (.tmp 206) (some (.tmp 207)) none none), none⟩, ⟨(some 209), (.mov (.tmp 3)), none⟩, ⟨(some 210), (.copy 2 (.tmp 208) (.tmp 209)), none⟩] false []) (.seq (.region [⟨(some 211), (.mov (.tmp 12)), none⟩, ⟨(some 212), (.mov (.tmp 1)), none⟩, ⟨(some 213), (.mov (.tmp 3)), none⟩, ⟨(some 214), (.len 0 (.tmp 213)), none⟩, ⟨(some 215), (.bin .add 3 (.tmp 212) (.tmp 214)), none⟩, ⟨(some 216), (.slice 2 (.tmp 211) (some (.tmp 215)) none none), none⟩, ⟨(some 217), (.mov (.tmp 12)), none⟩, ⟨(some 218), (.mov (.tmp 1)), none⟩, ⟨(some 219), (.mov (.tmp 14)), none⟩, ⟨(some 220), (.bin .add 3 (.tmp 218) (.tmp 219)), none⟩, ⟨(some 221), (.slice 2 (.tmp 217) (some (.tmp 220)) none none), none⟩, ⟨(some 222), (.copy 2 (.tmp 216) (.tmp 221)), none⟩] true []) (.seq (.region [⟨(some 223), (.mov (.tmp 12)), none⟩, ⟨(some 8), (.mov (.tmp 223)), none⟩] false []) .ret))))))))))))))))
def r103 : List ARes := [(.tmp 8)]
def c104 : ACode := (.seq (.region [⟨(some 4), (.box 3 (.tmp 1)), none⟩, ⟨(some 6), (.mov (.const (.int .i64 0))), none⟩] false []) (.seq (.seq (.region [⟨(some 7), (.mov (.tmp 0)), none⟩, ⟨(some 8), (.bin .lss 3 (.tmp 7) (.const (.int .i64 1))), none⟩, ⟨(some 9), (.mov (.tmp 8)), none⟩, ⟨(some 10), (.mov (.tmp 0)), (some ((some 9), false))⟩, ⟨(some 11), (.bin .gtr 3 (.tmp 10) (.const (.int .i64 3))), (some ((some 9), false))⟩, ⟨(some 12), (.pick (.tmp 9) (.const (.bool true)) (.tmp 11)), none⟩] false []) (.cond (.tmp 12) (.seq (.region [⟨(some 6), (.mov (.const (.int .i64 0))), none⟩] false []) .ret) .skip)) (.seq (.seq (.region [⟨(some 13), (.faddr 0 (.tmp 4)), none⟩, ⟨(some 14), (.load false 1 (.tmp 13)), none⟩] false []) (.cond (.tmp 14) (.seq (.region [⟨(some 15), (.mov (.tmp 0)), none⟩, ⟨(some 16), (.faddr 1 (.tmp 4)), none⟩, ⟨(some 17), (.load false 1 (.tmp 16)), none⟩, ⟨(some 18), (.mov (.tmp 2)), none⟩, ⟨(some 19), (.iaddr none 4 (.tmp 17) (.tmp 18)), none⟩, ⟨(some 20), (.load true 4 (.tmp 19)), none⟩, ⟨(some 21), (.call (.func 156) [(.tmp 15), (.tmp 20)]), none⟩, ⟨(some 6), (.mov (.tmp 21)), none⟩] false []) .ret) .skip)) (.seq (.region [⟨(some 22), (.faddr 2 (.tmp 4)), none⟩, ⟨(some 23), (.load false 1 (.tmp 22)), none⟩, ⟨(some 24), (.mov (.tmp 2)), none⟩, ⟨(some 25), (.iaddr none 2 (.tmp 23) (.tmp 24)), none⟩, ⟨(some 26), (.faddr 0 (.tmp 25)), none⟩, ⟨(some 27), (.load false 1 (.tmp 26)), none⟩, ⟨(some 28), (.len 0 (.tmp 27)), none⟩, ⟨(some 29), (.bin .add 3 (.const (.int .i64 1)) (.tmp 28)), none⟩, ⟨(some 30), (.mov (.tmp 0)), none⟩, ⟨(some 31), (.call (.func 157) [(.tmp 30)]), none⟩, ⟨(some 32), (.bin .add 3 (.tmp 29) (.tmp 31)), none⟩, ⟨(some 6), (.mov (.tmp 32)), none⟩] true [(1, 9), (3, 9), (5, 9), (6, 9)]) .ret))))
def r104 : List ARes := [(.tmp 6)]
def c134L0 : ACode := (.seq (.seq (.region [⟨(some 15), (.mov (.tmp 9)), none⟩, ⟨(some 16), (.mov (.tmp 10)), none⟩, ⟨(some 17), (.bin .lss 3 (.tmp 15) (.tmp 16)), none⟩] false []) (.cond (.tmp 17) .skip (.exit 0))) (.block 1 (.seq (.region [⟨(some 18), (.mov (.tmp 9)), none⟩, ⟨(some 19), (.mov (.tmp 10)), none⟩, ⟨(some 20), (.bin .add 3 (.tmp 18) (.tmp 19)), none⟩, ⟨(some 21), (.conv .u64 (.tmp 20)), none⟩, ⟨(some 22), (.bin .shr 206 (.tmp 21) (.const (.int .u64 1))), none⟩, ⟨(some 23), (.conv .i64 (.tmp 22)), none⟩, ⟨(some 11), (.mov (.tmp 23)), none⟩] false []) (.seq (.region [⟨(some 24), (.mov (.tmp 2)), none⟩, ⟨(some 25), (.mov (.tmp 0)), none⟩, ⟨(some 26), (.mov (.tmp 11)), none⟩, ⟨(some 27), (.iaddr none 4 (.tmp 25) (.tmp 26)), none⟩, ⟨(some 28), (.load true 4 (.tmp 27)), none⟩, ⟨(some 29), (.mov (.tmp 1)), none⟩, ⟨(some 30), (.call (.tmp 24) [(.tmp 28), (.tmp 29)]), none⟩, ⟨(some 31), (.bin .lss 3 (.tmp 30) (.const (.int .i64 0))), none⟩] false []) (.cond (.tmp 31) (.region [⟨(some 32), (.mov (.tmp 11)), none⟩, ⟨(some 33), (.bin .add 3 (.tmp 32) (.const (.int .i64 1))), none⟩, ⟨(some 9), (.mov (.tmp 33)), none⟩] false []) (.region [⟨(some 34), (.mov (.tmp 11)), none⟩, ⟨(some 10), (.mov (.tmp 34)), none⟩] false []))))))
def c134R1 : ACode := (.seq (.region [⟨(some 35), (.mov (.tmp 9)), none⟩, ⟨(some 36), (.mov (.tmp 9)), none⟩, ⟨(some 37), (.mov (.tmp 8)), none⟩, ⟨(some 38), (.bin .lss 3 (.tmp 36) (.tmp 37)), none⟩, ⟨(some 39), (.mov (.tmp 38)), none⟩, ⟨(some 40), (.mov (.tmp 2)), (some ((some 39), true))⟩, ⟨(some 41), (.mov (.tmp 0)), (some ((some 39), true))⟩, ⟨(some 42), (.mov (.tmp 9)), (some ((some 39), true))⟩, ⟨(some 43), (.iaddr none 4 (.tmp 41) (.tmp 42)), (some ((some 39), true))⟩, ⟨(some 44), (.load true 4 (.tmp 43)), (some ((some 39), true))⟩, ⟨(some 45), (.mov (.tmp 1)), (some ((some 39), true))⟩, ⟨(some 46), (.call (.tmp 40) [(.tmp 44), (.tmp 45)]), (some ((some 39), true))⟩, ⟨(some 47), (.bin .eql 3 (.tmp 46) (.const (.int .i64 0))), (some ((some 39), true))⟩, ⟨(some 48), (.pick (.tmp 39) (.tmp 47) (.const (.bool false))), none⟩, ⟨(some 6), (.mov (.tmp 35)), none⟩, ⟨(some 7), (.mov (.tmp 48)), none⟩] false []) .ret)
def c134 : ACode := (.seq (.region [⟨(some 6), (.mov (.const (.int .i64 0))), none⟩, ⟨(some 7), (.mov (.const (.bool false))), none⟩] false []) (.seq (.region [⟨(some 12), (.mov (.tmp 0)), none⟩, ⟨(some 13), (.len 0 (.tmp 12)), none⟩, ⟨(some 8), (.mov (.tmp 13)), none⟩] false []) (.seq (.region [⟨(some 14), (.mov (.tmp 8)), none⟩, ⟨(some 9), (.mov (.const (.int .i64 0))), none⟩, ⟨(some 10), (.mov (.tmp 14)), none⟩] false []) (.seq (.block 0 (.loop c134L0)) c134R1))))
def r134 : List ARes := [(.tmp 6), (.tmp 7)]
def c135 : ACode := (.seq (.region [⟨(some 2), (.box 4 (.tmp 0)), none⟩, ⟨(some 4), (.mov (.const (.int .i64 0))), none⟩] false []) (.seq (.region [⟨(some 5), (.faddr 0 (.tmp 2)), none⟩, ⟨(some 6), (.load false 1 (.tmp 5)), none⟩, ⟨(some 7), (.mov (.tmp 1)), none⟩, ⟨(some 8), (.call (.func 136) [(.tmp 6), (.tmp 7)]), none⟩, ⟨(some 4), (.mov (.tmp 8)), none⟩] false []) .ret))
def r135 : List ARes := [(.tmp 4)]
def c136 : ACode := (.seq (.region [⟨(some 4), (.mov (.const (.int .i64 0))), none⟩] false []) (.seq (.region [⟨(some 5), (.mov (.tmp 0)), none⟩, ⟨(some 6), (.mov (.tmp 1)), none⟩, ⟨(some 7), (.call (.func 169) [(.tmp 5), (.tmp 6)]), none⟩, ⟨(some 4), (.mov (.tmp 7)), none⟩] false []) .ret))
def r136 : List ARes := [(.tmp 4)]
def c137 : ACode := (.seq (.region [⟨(some 6), (.mov (.const (.slice none 0 0))), none⟩] false []) (.seq (.region [⟨(some 8), (.mov (.tmp 0)), none⟩, ⟨(some 9), (.mov (.tmp 1)), none⟩, ⟨(some 10), (.mov (.tmp 2)), none⟩, ⟨(some 11), (.mov (.tmp 0)), none⟩, ⟨(some 12), (.len 0 (.tmp 11)), none⟩, ⟨(some 13), (.slice 4 (.tmp 8) (some (.tmp 9)) (some (.tmp 10)) (some (.tmp 12))), none⟩] false []) (.seq (.seq (.region [⟨(some 14), (.mov (.tmp 1)), none⟩, ⟨(some 15), (.mov (.tmp 2)), none⟩, ⟨(some 16), (.bin .eql 3 (.tmp 14) (.tmp 15)), none⟩] false []) (.cond (.tmp 16) (.seq (.region [⟨(some 17), (.mov (.tmp 0)), none⟩, ⟨(some 6), (.mov (.tmp 17)), none⟩] false []) .ret) .skip)) (.seq (.region [⟨(some 18), (.mov (.tmp 0)), none⟩, ⟨(some 19), (.len 0 (.tmp 18)), none⟩, ⟨(some 7), (.mov (.tmp 19)), none⟩] false []) (.seq (.region [⟨(some 20), (.mov (.tmp 0)), none⟩, ⟨(some 21), (.mov (.tmp 1)), none⟩, ⟨(some 22), (.slice 4 (.tmp 20) none (some (.tmp 21)) none), none⟩, ⟨(some 23), (.mov (.tmp 0)), none⟩, ⟨(some 24), (.mov (.tmp 2)), none⟩, ⟨(some 25), (.slice 4 (.tmp 23) (some (.tmp 24)) none none), none⟩, ⟨(some 26), (.app 4 64 (.tmp 22) (.tmp 25)), none⟩, ⟨(some 0), (.mov (.tmp 26)), none⟩] true []) (.seq (.region [⟨(some 27), (.mov (.tmp 0)), none⟩, ⟨(some 28), (.mov (.tmp 0)), none⟩, ⟨(some 29), (.len 0 (.tmp 28)), none⟩, ⟨(some 30), (.mov (.tmp 7)), none⟩, ⟨(some 31), (.slice 4 (.tmp 27) (some (.tmp 29)) (some (.tmp 30)) none), none⟩, ⟨none, (.clr 4 [(.sc (.slice none 0 0)), (.sc (.slice none 0 0)), (.sc (.int .i64 0)), (.sc (.int .i64 0))] (.tmp 31)), none⟩] false []) (.seq (.region [⟨(some 32), (.mov (.tmp 0)), none⟩, ⟨(some 6), (.mov (.tmp 32)), none⟩] false []) .ret)))))))
def r137 : List ARes := [(.tmp 6)]
def c138L0 : ACode := (.seq (.region [⟨(some 30), (.bin .lss 3 (.tmp 29) (.tmp 28)), none⟩] false []) (.seq (.cond (.tmp 30) .skip (.exit 0)) (.seq (.block 1 (.seq (.region [⟨(some 31), (.mov (.tmp 29)), none⟩, ⟨(some 32), (.iaddr none 2 (.tmp 27) (.tmp 29)), none⟩, ⟨(some 33), (.load true 2 (.tmp 32)), none⟩, ⟨(some 6), (.alloc [(.sc (.slice none 0 0)), (.sc (.int .i64 0))]), none⟩, ⟨(some 5), (.mov (.tmp 31)), none⟩, ⟨none, (.store 2 (.tmp 6) (.tmp 33)), none⟩] false []) (.seq (.region [⟨(some 34), (.faddr 1 (.tmp 6)), none⟩, ⟨(some 35), (.load false 1 (.tmp 34)), none⟩, ⟨(some 36), (.bin .lss 3 (.tmp 35) (.const (.int .i64 2))), none⟩, ⟨(some 37), (.mov (.tmp 36)), none⟩, ⟨(some 38), (.faddr 1 (.tmp 6)), (some ((some 37), false))⟩, ⟨(some 39), (.load false 1 (.tmp 38)), (some ((some 37), false))⟩, ⟨(some 40), (.bin .geq 3 (.tmp 39) (.const (.int .i64 16384))), (some ((some 37), false))⟩, ⟨(some 41), (.pick (.tmp 37) (.const (.bool true)) (.tmp 40)), none⟩, ⟨(some 42), (.mov (.tmp 41)), none⟩, ⟨(some 43), (.mov (.tmp 5)), (some ((some 42), false))⟩, ⟨(some 44), (.bin .gtr 3 (.tmp 43) (.const (.int .i64 0))), (some ((some 42), false))⟩, ⟨(some 45), (.mov (.tmp 44)), (some ((some 42), false))⟩, ⟨(some 46), (.faddr 0 (.tmp 6)), (some ((some 45), true))⟩, ⟨(some 47), (.load false 1 (.tmp 46)), (some ((some 45), true))⟩, ⟨(some 48), (.len 0 (.tmp 47)), (some ((some 45), true))⟩, ⟨(some 49), (.bin .eql 3 (.tmp 48) (.const (.int .i64 0))), (some ((some 45), true))⟩, ⟨(some 50), (.mov (.tmp 49)), (some ((some 45), true))⟩, ⟨(some 51), (.faddr 0 (.tmp 6)), (some ((some 50), false))⟩, ⟨(some 52), (.load false 1 (.tmp 51)), (some ((some 50), false))⟩, ⟨(some 53), (.len 0 (.tmp 52)), (some ((some 50), false))⟩, ⟨(some 54), (.mov (.tmp 1)), (some ((some 50), false))⟩, ⟨(some 55), (.call (.func 170) [(.tmp 54)]), (some ((some 50), false))⟩, ⟨(some 56), (.bin .gtr 3 (.tmp 53) (.tmp 55)), (some ((some 50), false))⟩, ⟨(some 57), (.pick (.tmp 50) (.const (.bool true)) (.tmp 56)), (some ((some 45), true))⟩, ⟨(some 58), (.pick (.tmp 45) (.tmp 57) (.const (.bool false))), (some ((some 42), false))⟩, ⟨(some 59), (.pick (.tmp 42) (.const (.bool true)) (.tmp 58)), none⟩] true [(18, 21), (19, 21)]) (.cond (.tmp 59) (.seq (.region [⟨(some 4), (.mov (.const (.bool false))), none⟩] false []) .ret) .skip)))) (.region [⟨(some 60), (.bin .add 3 (.tmp 29) (.const (.int .i64 1))), none⟩, ⟨(some 29), (.mov (.tmp 60)), none⟩] false []))))
def c138R1 : ACode := (.seq (.region [⟨(some 4), (.mov (.const (.bool true))), none⟩] false []) .ret)
def c138 : ACode := (.seq (.region [⟨(some 2), (.box 3 (.tmp 0)), none⟩, ⟨(some 4), (.mov (.const (.bool false))), none⟩] false []) (.seq (.seq (.region [⟨(some 7), (.faddr 2 (.tmp 2)), none⟩, ⟨(some 8), (.load false 1 (.tmp 7)), none⟩, ⟨(some 9), (.len 0 (.tmp 8)), none⟩, ⟨(some 10), (.bin .eql 3 (.tmp 9) (.const (.int .i64 0))), none⟩, ⟨(some 11), (.mov (.tmp 10)), none⟩, ⟨(some 12), (.faddr 1 (.tmp 2)), (some ((some 11), false))⟩, ⟨(some 13), (.load false 1 (.tmp 12)), (some ((some 11), false))⟩, ⟨(some 14), (.len 0 (.tmp 13)), (some ((some 11), false))⟩, ⟨(some 15), (.bin .gtr 3 (.tmp 14) (.const (.int .i64 0))), (some ((some 11), false))⟩, ⟨(some 16), (.pick (.tmp 11) (.const (.bool true)) (.tmp 15)), none⟩, ⟨(some 17), (.mov (.tmp 16)), none⟩, ⟨(some 18), (.faddr 2 (.tmp 2)), (some ((some 17), false))⟩, ⟨(some 19), (.load false 1 (.tmp 18)), (some ((some 17), false))⟩, ⟨(some 20), (.iaddr none 2 (.tmp 19) (.const (.int .i64 0))), (some ((some 17), false))⟩, ⟨(some 21), (.faddr 0 (.tmp 20)), (some ((some 17), false))⟩, ⟨(some 22), (.load false 1 (.tmp 21)), (some ((some 17), false))⟩, ⟨(some 23), (.len 0 (.tmp 22)), (some ((some 17), false))⟩, ⟨(some 24), (.bin .gtr 3 (.tmp 23) (.const (.int .i64 0))), (some ((some 17), false))⟩, ⟨(some 25), (.pick (.tmp 17) (.const (.bool true)) (.tmp 24)), none⟩] false []) (.cond (.tmp 25) (.seq (.region [⟨(some 4), (.mov (.const (.bool false))), none⟩] false []) .ret) .skip)) (.seq (.seq (.region [⟨(some 26), (.faddr 2 (.tmp 2)), none⟩, ⟨(some 27), (.load false 1 (.tmp 26)), none⟩, ⟨(some 28), (.len 0 (.tmp 27)), none⟩, ⟨(some 29), (.mov (.const (.int .i64 0))), none⟩] false []) (.block 0 (.loop c138L0))) c138R1)))
def r138 : List ARes := [(.tmp 4)]
def c139 : ACode := (.seq (.region [⟨(some 2), (.box 3 (.tmp 0)), none⟩, ⟨(some 3), (.box 1 (.tmp 1)), none⟩, ⟨(some 4), (.mov (.const (.bool false))), none⟩] false []) (.seq (.region [⟨(some 6), (.mkfn (.func 171) [] [(.tmp 3)]), none⟩, ⟨(some 5), (.mov (.tmp 6)), none⟩] false []) (.seq (.region [⟨(some 7), (.faddr 2 (.tmp 2)), none⟩, ⟨(some 8), (.load false 1 (.tmp 7)), none⟩, ⟨(some 9), (.len 0 (.tmp 8)), none⟩, ⟨(some 10), (.bin .eql 3 (.tmp 9) (.const (.int .i64 0))), none⟩, ⟨(some 11), (.mov (.tmp 10)), none⟩, ⟨(some 12), (.faddr 1 (.tmp 2)), (some ((some 11), true))⟩, ⟨(some 13), (.load false 1 (.tmp 12)), (some ((some 11), true))⟩, ⟨(some 14), (.mov (.tmp 5)), (some ((some 11), true))⟩, ⟨(some 15), (.call (.func 173) [(.tmp 13), (.tmp 14)]), (some ((some 11), true))⟩, ⟨(some 16), (.un .not (.tmp 15)), (some ((some 11), true))⟩, ⟨(some 17), (.pick (.tmp 11) (.tmp 16) (.const (.bool false))), none⟩, ⟨(some 4), (.mov (.tmp 17)), none⟩] false []) .ret)))
def r139 : List ARes := [(.tmp 4)]
def c140 : ACode := (.seq (.region [⟨(some 2), (.mov (.const (.bool false))), none⟩] false []) (.seq (.region [⟨(some 3), (.mov (.tmp 0)), none⟩, ⟨(some 4), (.bin .geq 3 (.tmp 3) (.const (.int .i64 1))), none⟩, ⟨(some 5), (.mov (.tmp 4)), none⟩, ⟨(some 6), (.mov (.tmp 0)), (some ((some 5), true))⟩, ⟨(some 7), (.bin .leq 3 (.tmp 6) (.const (.int .i64 3))), (some ((some 5), true))⟩, ⟨(some 8), (.pick (.tmp 5) (.tmp 7) (.const (.bool false))), none⟩, ⟨(some 2), (.mov (.tmp 8)), none⟩] false []) .ret))
def r140 : List ARes := [(.tmp 2)]
def c141L0 : ACode := (.seq (.seq (.region [⟨(some 4), (.mov (.tmp 3)), none⟩, ⟨(some 5), (.mov (.tmp 0)), none⟩, ⟨(some 6), (.len 0 (.tmp 5)), none⟩, ⟨(some 7), (.bin .lss 3 (.tmp 4) (.tmp 6)), none⟩] false []) (.cond (.tmp 7) .skip (.exit 0))) (.seq (.block 1 (.seq (.region [⟨(some 10), (.mov (.tmp 0)), none⟩, ⟨(some 11), (.mov (.tmp 3)), none⟩, ⟨(some 12), (.bin .sub 3 (.tmp 11) (.const (.int .i64 1))), none⟩, ⟨(some 13), (.iaddr none 1 (.tmp 10) (.tmp 12)), none⟩, ⟨(some 14), (.load false 1 (.tmp 13)), none⟩, ⟨(some 15), (.mov (.tmp 0)), none⟩, ⟨(some 16), (.mov (.tmp 3)), none⟩, ⟨(some 17), (.iaddr none 1 (.tmp 15) (.tmp 16)), none⟩, ⟨(some 18), (.load false 1 (.tmp 17)), none⟩, ⟨(some 19), (.call (.func 136) [(.tmp 14), (.tmp 18)]), none⟩, ⟨(some 20), (.bin .geq 3 (.tmp 19) (.const (.int .i64 0))), none⟩] true []) (.cond (.tmp 20) (.seq (.region [⟨(some 2), (.mov (.const (.bool false))), none⟩] false []) .ret) .skip))) (.region [⟨(some 8), (.mov (.tmp 3)), none⟩, ⟨(some 9), (.bin .add 3 (.tmp 8) (.const (.int .i64 1))), none⟩, ⟨(some 3), (.mov (.tmp 9)), none⟩] false [])))
def c141R1 : ACode := (.seq (.region [⟨(some 2), (.mov (.const (.bool true))), none⟩] false []) .ret)
def c141 : ACode := (.seq (.region [⟨(some 2), (.mov (.const (.bool false))), none⟩] false []) (.seq (.seq (.region [⟨(some 3), (.mov (.const (.int .i64 1))), none⟩] false []) (.block 0 (.loop c141L0))) c141R1))
def r141 : List ARes := [(.tmp 2)]
def c142L0 : ACode := (.seq (.region [⟨(some 12), (.bin .lss 3 (.tmp 11) (.tmp 10)), none⟩] false []) (.seq (.cond (.tmp 12) .skip (.exit 0)) (.seq (.block 1 (.seq (.region [⟨(some 13), (.iaddr none 4 (.tmp 9) (.tmp 11)), none⟩, ⟨(some 14), (.load true 4 (.tmp 13)), none⟩, ⟨(some 5), (.alloc [(.sc (.slice none 0 0)), (.sc (.slice none 0 0)), (.sc (.int .i64 0)), (.sc (.int .i64 0))]), none⟩, ⟨none, (.store 4 (.tmp 5) (.tmp 14)), none⟩] false []) (.region [⟨(some 15), (.mov (.tmp 3)), none⟩, ⟨(some 16), (.faddr 0 (.tmp 5)), none⟩, ⟨(some 17), (.load false 1 (.tmp 16)), none⟩, ⟨(some 18), (.bslice 1 [(.sc (.slice none 0 0))] 1 [(0, (.tmp 17))]), none⟩, ⟨(some 19), (.app 1 24 (.tmp 15) (.tmp 18)), none⟩, ⟨(some 3), (.mov (.tmp 19)), none⟩] false []))) (.region [⟨(some 20), (.bin .add 3 (.tmp 11) (.const (.int .i64 1))), none⟩, ⟨(some 11), (.mov (.tmp 20)), none⟩] false []))))
def c142L1 : ACode := (.seq (.region [⟨(some 25), (.bin .lss 3 (.tmp 24) (.tmp 23)), none⟩] false []) (.seq (.cond (.tmp 25) .skip (.exit 2)) (.seq (.block 3 (.seq (.region [⟨(some 26), (.mov (.tmp 24)), none⟩, ⟨(some 27), (.iaddr none 2 (.tmp 22) (.tmp 24)), none⟩, ⟨(some 28), (.load true 2 (.tmp 27)), none⟩, ⟨(some 7), (.alloc [(.sc (.slice none 0 0)), (.sc (.int .i64 0))]), none⟩, ⟨(some 6), (.mov (.tmp 26)), none⟩, ⟨none, (.store 2 (.tmp 7) (.tmp 28)), none⟩] false []) (.seq (.region [⟨(some 29), (.mov (.tmp 6)), none⟩, ⟨(some 30), (.bin .gtr 3 (.tmp 29) (.const (.int .i64 0))), none⟩] false []) (.cond (.tmp 30) (.region [⟨(some 31), (.mov (.tmp 3)), none⟩, ⟨(some 32), (.faddr 0 (.tmp 7)), none⟩, ⟨(some 33), (.load false 1 (.tmp 32)), none⟩, ⟨(some 34), (.bslice 1 [(.sc (.slice none 0 0))] 1 [(0, (.tmp 33))]), none⟩, ⟨(some 35), (.app 1 24 (.tmp 31) (.tmp 34)), none⟩, ⟨(some 3), (.mov (.tmp 35)), none⟩] false []) .skip)))) (.region [⟨(some 36), (.bin .add 3 (.tmp 24) (.const (.int .i64 1))), none⟩, ⟨(some 24), (.mov (.tmp 36)), none⟩] false []))))
def c142R2 : ACode := (.seq (.region [⟨(some 37), (.mov (.tmp 3)), none⟩, ⟨(some 2), (.mov (.tmp 37)), none⟩] false []) .ret)
def c142R3 : ACode := (.seq (.seq (.region [⟨(some 21), (.faddr 2 (.tmp 1)), none⟩, ⟨(some 22), (.load false 1 (.tmp 21)), none⟩, ⟨(some 23), (.len 0 (.tmp 22)), none⟩, ⟨(some 24), (.mov (.const (.int .i64 0))), none⟩] false []) (.block 2 (.loop c142L1))) c142R2)
def c142 : ACode := (.seq (.region [⟨(some 1), (.box 3 (.tmp 0)), none⟩, ⟨(some 2), (.mov (.const (.slice none 0 0))), none⟩] false []) (.seq (.region [⟨(some 3), (.mov (.const (.slice none 0 0))), none⟩] false []) (.seq (.seq (.region [⟨(some 8), (.faddr 1 (.tmp 1)), none⟩, ⟨(some 9), (.load false 1 (.tmp 8)), none⟩, ⟨(some 10), (.len 0 (.tmp 9)), none⟩, ⟨(some 11), (.mov (.const (.int .i64 0))), none⟩] false []) (.block 0 (.loop c142L0))) c142R3)))
def r142 : List ARes := [(.tmp 2)]
def c143 : ACode := (.seq (.region [⟨(some 3), (.box 4 (.tmp 1)), none⟩, ⟨(some 4), (.mov (.const (.int .i64 0))), none⟩] false []) (.seq (.block 0 (.seq (.region [⟨(some 6), (.mov (.tmp 0)), none⟩, ⟨(some 7), (.call (.func 140) [(.tmp 6)]), none⟩, ⟨(some 8), (.un .not (.tmp 7)), none⟩, ⟨(some 5), (.mov (.tmp 8)), none⟩] false []) (.cond (.tmp 5) (.seq (.region [⟨(some 4), (.mov (.const (.int .i64 0))), none⟩] false []) .ret) (.seq (.region [⟨(some 10), (.load true 4 (.tmp 3)), none⟩, ⟨(some 11), (.call (.func 174) [(.tmp 10)]), none⟩, ⟨(some 9), (.mov (.tmp 11)), none⟩] false []) (.cond (.tmp 9) (.seq (.region [⟨(some 12), (.faddr 0 (.tmp 3)), none⟩, ⟨(some 13), (.load false 1 (.tmp 12)), none⟩, ⟨(some 14), (.len 0 (.tmp 13)), none⟩, ⟨(some 15), (.bin .add 3 (.const (.int .i64 4)) (.tmp 14)), none⟩, ⟨(some 16), (.mov (.tmp 0)), none⟩, ⟨(some 17), (.call (.func 175) [(.tmp 16)]), none⟩, ⟨(some 18), (.bin .add 3 (.tmp 15) (.tmp 17)), none⟩, ⟨(some 4), (.mov (.tmp 18)), none⟩] true [(1, 5), (2, 5)]) .ret) .skip))))) (.seq (.region [⟨(some 19), (.faddr 0 (.tmp 3)), none⟩, ⟨(some 20), (.load false 1 (.tmp 19)), none⟩, ⟨(some 21), (.len 0 (.tmp 20)), none⟩, ⟨(some 22), (.bin .add 3 (.const (.int .i64 4)) (.tmp 21)), none⟩, ⟨(some 23), (.faddr 1 (.tmp 3)), none⟩, ⟨(some 24), (.load false 1 (.tmp 23)), none⟩, ⟨(some 25), (.len 0 (.tmp 24)), none⟩, ⟨(some 26), (.bin .add 3 (.tmp 22) (.tmp 25)), none⟩, ⟨(some 4), (.mov (.tmp 26)), none⟩] false []) .ret)))
def r143 : List ARes := [(.tmp 4)]
def c144 : ACode := (.seq (.region [⟨(some 4), (.mov (.const (.int .i64 0))), none⟩] false []) (.seq (.seq (.region [⟨(some 5), (.mov (.tmp 0)), none⟩, ⟨(some 6), (.call (.func 140) [(.tmp 5)]), none⟩, ⟨(some 7), (.un .not (.tmp 6)), none⟩] false []) (.cond (.tmp 7) (.seq (.region [⟨(some 4), (.mov (.const (.int .i64 0))), none⟩] false []) .ret) .skip)) (.seq (.region [⟨(some 8), (.mov (.tmp 1)), none⟩, ⟨(some 9), (.len 0 (.tmp 8)), none⟩, ⟨(some 10), (.bin .add 3 (.const (.int .i64 1)) (.tmp 9)), none⟩, ⟨(some 11), (.mov (.tmp 0)), none⟩, ⟨(some 12), (.call (.func 175) [(.tmp 11)]), none⟩, ⟨(some 13), (.bin .add 3 (.tmp 10) (.tmp 12)), none⟩, ⟨(some 4), (.mov (.tmp 13)), none⟩] false []) .ret)))
def r144 : List ARes := [(.tmp 4)]
def c145 : ACode := (.seq (.region [⟨(some 2), (.mov (.const (.int .i64 0))), none⟩] false []) (.seq (.region [⟨(some 3), (.mov (.tmp 0)), none⟩, ⟨(some 4), (.call (.func 149) [(.tmp 3), (.const (.int .i64 248)), (.const (.int .i64 240)), (.const (.int .i64 240))]), none⟩, ⟨(some 2), (.mov (.tmp 4)), none⟩] false []) .ret))
def r145 : List ARes := [(.tmp 2)]
def c146 : ACode := (.seq (.region [⟨(some 2), (.mov (.const (.int .i64 0))), none⟩] false []) (.seq (.region [⟨(some 3), (.mov (.tmp 0)), none⟩, ⟨(some 4), (.call (.func 176) [(.tmp 3)]), none⟩, ⟨(some 5), (.field false 3 1 (.tmp 4)), none⟩, ⟨(some 2), (.mov (.tmp 5)), none⟩] false []) .ret))
def r146 : List ARes := [(.tmp 2)]
def c147 : ACode := (.seq (.region [⟨(some 4), (.mov (.const (.slice none 0 0))), none⟩] false []) (.seq (.seq (.region [⟨(some 5), (.mov (.tmp 1)), none⟩, ⟨(some 6), (.bin .lss 3 (.tmp 5) (.const (.int .i64 0))), none⟩] false []) (.cond (.tmp 6) (.region [⟨(some 7), .stop, none⟩, ⟨none, .stop, none⟩] false []) .skip)) (.seq (.seq (.region [⟨(some 8), (.mov (.tmp 1)), none⟩, ⟨(some 9), (.mov (.tmp 0)), none⟩, ⟨(some 10), (.cap (.tmp 9)), none⟩, ⟨(some 11), (.mov (.tmp 0)), none⟩, ⟨(some 12), (.len 0 (.tmp 11)), none⟩, ⟨(some 13), (.bin .sub 3 (.tmp 10) (.tmp 12)), none⟩, ⟨(some 14), (.bin .sub 3 (.tmp 8) (.tmp 13)), none⟩, ⟨(some 1), (.mov (.tmp 14)), none⟩] false []) (.seq (.region [⟨(some 15), (.mov (.tmp 1)), none⟩, ⟨(some 16), (.bin .gtr 3 (.tmp 15) (.const (.int .i64 0))), none⟩] false []) (.cond (.tmp 16) (.region [⟨(some 17), (.mov (.tmp 0)), none⟩, ⟨(some 18), (.mov (.tmp 0)), none⟩, ⟨(some 19), (.cap (.tmp 18)), none⟩, ⟨(some 20), (.slice 4 (.tmp 17) none (some (.tmp 19)) none), none⟩, ⟨(some 21), (.mov (.tmp 1)), none⟩, ⟨(some 22), (.appz 4 64 [(.sc (.slice none 0 0)), (.sc (.slice none 0 0)), (.sc (.int .i64 0)), (.sc (.int .i64 0))] (.tmp 20) (.tmp 21)), none⟩, ⟨(some 23), (.mov (.tmp 0)), none⟩, ⟨(some 24), (.len 0 (.tmp 23)), none⟩, ⟨(some 25), (.slice 4 (.tmp 22) none (some (.tmp 24)) none), none⟩, ⟨(some 0), (.mov (.tmp 25)), none⟩] false []) .skip))) (.seq (.region [⟨(some 26), (.mov (.tmp 0)), none⟩, ⟨(some 4), (.mov (.tmp 26)), none⟩] false []) .ret))))
def r147 : List ARes := [(.tmp 4)]
def c148 : ACode := (.seq (.region [⟨(some 4), (.mov (.const (.slice none 0 0))), none⟩] false []) (.seq (.seq (.region [⟨(some 5), (.mov (.tmp 1)), none⟩, ⟨(some 6), (.bin .lss 3 (.tmp 5) (.const (.int .i64 0))), none⟩] false []) (.cond (.tmp 6) (.region [⟨(some 7), .stop, none⟩, ⟨none, .stop, none⟩] false []) .skip)) (.seq (.seq (.region [⟨(some 8), (.mov (.tmp 1)), none⟩, ⟨(some 9), (.mov (.tmp 0)), none⟩, ⟨(some 10), (.cap (.tmp 9)), none⟩, ⟨(some 11), (.mov (.tmp 0)), none⟩, ⟨(some 12), (.len 0 (.tmp 11)), none⟩, ⟨(some 13), (.bin .sub 3 (.tmp 10) (.tmp 12)), none⟩, ⟨(some 14), (.bin .sub 3 (.tmp 8) (.tmp 13)), none⟩, ⟨(some 1), (.mov (.tmp 14)), none⟩] false []) (.seq (.region [⟨(some 15), (.mov (.tmp 1)), none⟩, ⟨(some 16), (.bin .gtr 3 (.tmp 15) (.const (.int .i64 0))), none⟩] false []) (.cond (.tmp 16) (.region [⟨(some 17), (.mov (.tmp 0)), none⟩, ⟨(some 18), (.mov (.tmp 0)), none⟩, ⟨(some 19), (.cap (.tmp 18)), none⟩, ⟨(some 20), (.slice 2 (.tmp 17) none (some (.tmp 19)) none), none⟩, ⟨(some 21), (.mov (.tmp 1)), none⟩, ⟨(some 22), (.appz 2 32 [(.sc (.slice none 0 0)), (.sc (.int .i64 0))] (.tmp 20) (.tmp 21)), none⟩, ⟨(some 23), (.mov (.tmp 0)), none⟩, ⟨(some 24), (.len 0 (.tmp 23)), none⟩, ⟨(some 25), (.slice 2 (.tmp 22) none (some (.tmp 24)) none), none⟩, ⟨(some 0), (.mov (.tmp 25)), none⟩] false []) .skip))) (.seq (.region [⟨(some 26), (.mov (.tmp 0)), none⟩, ⟨(some 4), (.mov (.tmp 26)), none⟩] false []) .ret))))
def r148 : List ARes := [(.tmp 4)]
def c149 : ACode := (.seq (.region [⟨(some 8), (.mov (.const (.int .i64 0))), none⟩] false []) (.seq (.seq (.region [⟨(some 9), (.mov (.tmp 0)), none⟩] false []) (.block 0 (.seq (.region [⟨(some 11), (.bin .eql 3 (.tmp 9) (.const (.int .i64 1))), none⟩, ⟨(some 10), (.mov (.tmp 11)), none⟩] false []) (.cond (.tmp 10) (.seq (.region [⟨(some 12), (.mov (.tmp 1)), none⟩, ⟨(some 8), (.mov (.tmp 12)), none⟩] false []) .ret) (.seq (.region [⟨(some 14), (.bin .eql 3 (.tmp 9) (.const (.int .i64 2))), none⟩, ⟨(some 13), (.mov (.tmp 14)), none⟩] false []) (.cond (.tmp 13) (.seq (.region [⟨(some 15), (.mov (.tmp 2)), none⟩, ⟨(some 8), (.mov (.tmp 15)), none⟩] false []) .ret) (.seq (.region [⟨(some 17), (.bin .eql 3 (.tmp 9) (.const (.int .i64 3))), none⟩, ⟨(some 16), (.mov (.tmp 17)), none⟩] false []) (.cond (.tmp 16) (.seq (.region [⟨(some 18), (.mov (.tmp 3)), none⟩, ⟨(some 8), (.mov (.tmp 18)), none⟩] false []) .ret) .skip)))))))) (.seq (.region [⟨(some 8), (.mov (.const (.int .i64 0))), none⟩] false []) .ret)))
def r149 : List ARes := [(.tmp 8)]
def c152 : ACode := (.seq (.region [⟨(some 6), (.mov (.const (.slice none 0 0))), none⟩] false []) (.seq (.region [⟨(some 10), (.mov (.tmp 0)), none⟩, ⟨(some 11), (.mov (.tmp 1)), none⟩, ⟨(some 12), (.slice 2 (.tmp 10) (some (.tmp 11)) none none), none⟩] false []) (.seq (.region [⟨(some 13), (.mov (.tmp 2)), none⟩, ⟨(some 14), (.len 0 (.tmp 13)), none⟩, ⟨(some 7), (.mov (.tmp 14)), none⟩] false []) (.seq (.seq (.region [⟨(some 15), (.mov (.tmp 7)), none⟩, ⟨(some 16), (.bin .eql 3 (.tmp 15) (.const (.int .i64 0))), none⟩] false []) (.cond (.tmp 16) (.seq (.region [⟨(some 17), (.mov (.tmp 0)), none⟩, ⟨(some 6), (.mov (.tmp 17)), none⟩] false []) .ret) .skip)) (.seq (.region [⟨(some 18), (.mov (.tmp 0)), none⟩, ⟨(some 19), (.len 0 (.tmp 18)), none⟩, ⟨(some 8), (.mov (.tmp 19)), none⟩] false []) (.seq (.seq (.region [⟨(some 20), (.mov (.tmp 1)), none⟩, ⟨(some 21), (.mov (.tmp 8)), none⟩, ⟨(some 22), (.bin .eql 3 (.tmp 20) (.tmp 21)), none⟩] false []) (.cond (.tmp 22) (.seq (.region [⟨(some 23), (.mov (.tmp 0)), none⟩, ⟨(some 24), (.mov (.tmp 2)), none⟩, ⟨(some 25), (.app 2 32 (.tmp 23) (.tmp 24)), none⟩, ⟨(some 6), (.mov (.tmp 25)), none⟩] false []) .ret) .skip)) (.seq (.seq (.region [⟨(some 26), (.mov (.tmp 8)), none⟩, ⟨(some 27), (.mov (.tmp 7)), none⟩, ⟨(some 28), (.bin .add 3 (.tmp 26) (.tmp 27)), none⟩, ⟨(some 29), (.mov (.tmp 0)), none⟩, ⟨(some 30), (.cap (.tmp 29)), none⟩, ⟨(some 31), (.bin .gtr 3 (.tmp 28) (.tmp 30)), none⟩] false []) (.cond (.tmp 31) (.seq (.region [⟨(some 32), (.mov (.tmp 0)), none⟩, ⟨(some 33), (.mov (.tmp 1)), none⟩, ⟨(some 34), (.slice 2 (.tmp 32) none (some (.tmp 33)) none), none⟩, ⟨(some 35), (.mov (.tmp 8)), none⟩, ⟨(some 36), (.mov (.tmp 7)), none⟩, ⟨(some 37), (.bin .add 3 (.tmp 35) (.tmp 36)), none⟩, ⟨(some 38), (.mov (.tmp 1)), none⟩, ⟨(some 39), (.bin .sub 3 (.tmp 37) (.tmp 38)), none⟩, ⟨(some 40), (.appz 2 32 [(.sc (.slice none 0 0)), (.sc (.int .i64 0))] (.tmp 34) (.tmp 39)), none⟩, ⟨(some 9), (.mov (.tmp 40)), none⟩] false []) (.seq (.region [⟨(some 41), (.mov (.tmp 9)), none⟩, ⟨(some 42), (.mov (.tmp 1)), none⟩, ⟨(some 43), (.slice 2 (.tmp 41) (some (.tmp 42)) none none), none⟩, ⟨(some 44), (.mov (.tmp 2)), none⟩, ⟨(some 45), (.copy 2 (.tmp 43) (.tmp 44)), none⟩] false []) (.seq (.region [⟨(some 46), (.mov (.tmp 9)), none⟩, ⟨(some 47), (.mov (.tmp 1)), none⟩, ⟨(some 48), (.mov (.tmp 7)), none⟩, ⟨(some 49), (.bin .add 3 (.tmp 47) (.tmp 48)), none⟩, ⟨(some 50), (.slice 2 (.tmp 46) (some (.tmp 49)) none none), none⟩, ⟨(some 51), (.mov (.tmp 0)), none⟩, ⟨(some 52), (.mov (.tmp 1)), none⟩, ⟨(some 53), (.slice 2 (.tmp 51) (some (.tmp 52)) none none), none⟩, ⟨(some 54), (.copy 2 (.tmp 50) (.tmp 53)), none⟩] true []) (.seq (.region [⟨(some 55), (.mov (.tmp 9)), none⟩, ⟨(some 6), (.mov (.tmp 55)), none⟩] false []) .ret)))) .skip)) (.seq (.region [⟨(some 56), (.mov (.tmp 0)), none⟩, ⟨(some 57), (.mov (.tmp 8)), none⟩, ⟨(some 58), (.mov (.tmp 7)), none⟩, ⟨(some 59), (.bin .add 3 (.tmp 57) (.tmp 58)), none⟩, ⟨(some 60), (.slice 2 (.tmp 56) none (some (.tmp 59)) none), none⟩, ⟨(some 0), (.mov (.tmp 60)), none⟩] false []) (.seq (.seq (.region [⟨(some 61), (.mov (.tmp 2)), none⟩, ⟨(some 62), (.mov (.tmp 0)), none⟩, ⟨(some 63), (.mov (.tmp 1)), none⟩, ⟨(some 64), (.mov (.tmp 7)), none⟩, ⟨(some 65), (.bin .add 3 (.tmp 63) (.tmp 64)), none⟩, ⟨(some 66), (.slice 2 (.tmp 62) (some (.tmp 65)) none none), none⟩, ⟨(some 67), (.call (.func 153) [(.tmp 61), (.tmp 66)]), none⟩, ⟨(some 68), (.un .not (.tmp 67)), none⟩] false []) (.cond (.tmp 68) (.seq (.region [⟨(some 69), (.mov (.tmp 0)), none⟩, ⟨(some 70), (.mov (.tmp 1)), none⟩, ⟨(some 71), (.mov (.tmp 7)), none⟩, ⟨(some 72), (.bin .add 3 (.tmp 70) (.tmp 71)), none⟩, ⟨(some 73), (.slice 2 (.tmp 69) (some (.tmp 72)) none none), none⟩, ⟨(some 74), (.mov (.tmp 0)), none⟩, ⟨(some 75), (.mov (.tmp 1)), none⟩, ⟨(some 76), (.slice 2 (.tmp 74) (some (.tmp 75)) none none), none⟩, ⟨(some 77), (.copy 2 (.tmp 73) (.tmp 76)), none⟩] true []) (.seq (.region [⟨(some 78), (.mov (.tmp 0)), none⟩, ⟨(some 79), (.mov (.tmp 1)), none⟩, ⟨(some 80), (.slice 2 (.tmp 78) (some (.tmp 79)) none none), none⟩, ⟨(some 81), (.mov (.tmp 2)), none⟩, ⟨(some 82), (.copy 2 (.tmp 80) (.tmp 81)), none⟩] false []) (.seq (.region [⟨(some 83), (.mov (.tmp 0)), none⟩, ⟨(some 6), (.mov (.tmp 83)), none⟩] false []) .ret))) .skip)) (.seq (.region [⟨(some 84), (.mov (.tmp 0)), none⟩, ⟨(some 85), (.mov (.tmp 8)), none⟩, ⟨(some 86), (.slice 2 (.tmp 84) (some (.tmp 85)) none none), none⟩, ⟨(some 87), (.mov (.tmp 2)), none⟩, ⟨(some 88), (.copy 2 (.tmp 86) (.tmp 87)), none⟩] false []) (.seq (.region [⟨(some 89), (.mov (.tmp 0)), none⟩, ⟨(some 90), (.mov (.tmp 1)), none⟩, ⟨(some 91), (.slice 2 (.tmp 89) (some (.tmp 90)) none none), none⟩, ⟨(some 92), (.mov (.tmp 7)), none⟩, ⟨(some 93), (.call (.func 154) [(.tmp 91), (.tmp 92)]), none⟩] false []) (.seq (.region [⟨(some 94), (.mov (.tmp 0)), none⟩, ⟨(some 6), (.mov (.tmp 94)), none⟩] false []) .ret))))))))))))
def r152 : List ARes := [(.tmp 6)]
def c156 : ACode := (.seq (.region [⟨(some 3), (.box 4 (.tmp 1)), none⟩, ⟨(some 4), (.mov (.const (.int .i64 0))), none⟩] false []) (.seq (.seq (.region [⟨(some 6), (.mov (.tmp 0)), none⟩, ⟨(some 7), (.bin .lss 3 (.tmp 6) (.const (.int .i64 1))), none⟩, ⟨(some 8), (.mov (.tmp 7)), none⟩, ⟨(some 9), (.mov (.tmp 0)), (some ((some 8), false))⟩, ⟨(some 10), (.bin .gtr 3 (.tmp 9) (.const (.int .i64 3))), (some ((some 8), false))⟩, ⟨(some 11), (.pick (.tmp 8) (.const (.bool true)) (.tmp 10)), none⟩] false []) (.cond (.tmp 11) (.seq (.region [⟨(some 4), (.mov (.const (.int .i64 0))), none⟩] false []) .ret) .skip)) (.seq (.region [⟨(some 12), (.faddr 1 (.tmp 3)), none⟩, ⟨(some 13), (.load false 1 (.tmp 12)), none⟩, ⟨(some 14), (.len 0 (.tmp 13)), none⟩, ⟨(some 5), (.mov (.tmp 14)), none⟩] false []) (.seq (.seq (.region [⟨(some 15), (.load true 4 (.tmp 3)), none⟩, ⟨(some 16), (.call (.func 179) [(.tmp 15)]), none⟩] false []) (.cond (.tmp 16) (.region [⟨(some 17), (.mov (.tmp 0)), none⟩, ⟨(some 18), (.call (.func 157) [(.tmp 17)]), none⟩, ⟨(some 5), (.mov (.tmp 18)), none⟩] false []) .skip)) (.seq (.region [⟨(some 19), (.mov (.tmp 5)), none⟩, ⟨(some 20), (.faddr 0 (.tmp 3)), none⟩, ⟨(some 21), (.load false 1 (.tmp 20)), none⟩, ⟨(some 22), (.len 0 (.tmp 21)), none⟩, ⟨(some 23), (.bin .add 3 (.tmp 19) (.tmp 22)), none⟩, ⟨(some 24), (.bin .add 3 (.tmp 23) (.const (.int .i64 4))), none⟩, ⟨(some 4), (.mov (.tmp 24)), none⟩] false []) .ret)))))
def r156 : List ARes := [(.tmp 4)]
def c157 : ACode := (.seq (.region [⟨(some 2), (.mov (.const (.int .i64 0))), none⟩] false []) (.seq (.region [⟨(some 3), (.mov (.tmp 0)), none⟩, ⟨(some 4), (.call (.func 149) [(.tmp 3), (.const (.int .i64 4)), (.const (.int .i64 8)), (.const (.int .i64 8))]), none⟩, ⟨(some 2), (.mov (.tmp 4)), none⟩] false []) .ret))
def r157 : List ARes := [(.tmp 2)]
def c169 : ACode := (.seq (.region [⟨(some 4), (.mov (.const (.int .i64 0))), none⟩] false []) (.seq (.region [⟨(some 5), (.mov (.tmp 0)), none⟩, ⟨(some 6), (.mov (.tmp 1)), none⟩, ⟨(some 7), (.call (.func 183) [(.tmp 5), (.tmp 6)]), none⟩, ⟨(some 4), (.mov (.tmp 7)), none⟩] false []) .ret))
def r169 : List ARes := [(.tmp 4)]
def c170 : ACode := (.seq (.region [⟨(some 2), (.mov (.const (.int .i64 0))), none⟩] false []) (.seq (.region [⟨(some 3), (.mov (.tmp 0)), none⟩, ⟨(some 4), (.call (.func 176) [(.tmp 3)]), none⟩, ⟨(some 5), (.field false 0 1 (.tmp 4)), none⟩, ⟨(some 2), (.mov (.tmp 5)), none⟩] false []) .ret))
def r170 : List ARes := [(.tmp 2)]
def c171 : ACode := (.seq (.region [⟨(some 2), (.box 4 (.tmp 0)), none⟩, ⟨(some 3), (.mov (.const (.bool false))), none⟩] false []) (.seq (.region [⟨(some 4), (.load false 1 (.tmp 1)), none⟩, ⟨(some 5), (.load true 4 (.tmp 2)), none⟩, ⟨(some 6), (.call (.func 172) [(.tmp 4), (.tmp 5)]), none⟩, ⟨(some 7), (.un .not (.tmp 6)), none⟩, ⟨(some 3), (.mov (.tmp 7)), none⟩] false []) .ret))
def r171 : List ARes := [(.tmp 3)]
def c172 : ACode := (.seq (.region [⟨(some 3), (.box 4 (.tmp 1)), none⟩, ⟨(some 4), (.mov (.const (.bool false))), none⟩] false []) (.seq (.seq (.region [⟨(some 5), (.mov (.tmp 0)), none⟩, ⟨(some 6), (.faddr 0 (.tmp 3)), none⟩, ⟨(some 7), (.load false 1 (.tmp 6)), none⟩, ⟨(some 8), (.faddr 1 (.tmp 3)), none⟩, ⟨(some 9), (.load false 1 (.tmp 8)), none⟩, ⟨(some 10), (.call (.func 184) [(.tmp 5), (.tmp 7), (.tmp 9)]), none⟩, ⟨(some 11), (.bin .neq 95 (.tmp 10) (.const (.int .i64 0))), none⟩, ⟨(some 12), (.mov (.tmp 11)), none⟩, ⟨(some 13), (.load true 4 (.tmp 3)), (some ((some 12), false))⟩, ⟨(some 14), (.call (.func 185) [(.tmp 13)]), (some ((some 12), false))⟩, ⟨(some 15), (.mov (.tmp 0)), (some ((some 12), false))⟩, ⟨(some 16), (.call (.func 186) [(.tmp 15)]), (some ((some 12), false))⟩, ⟨(some 17), (.bin .gtr 3 (.tmp 14) (.tmp 16)), (some ((some 12), false))⟩, ⟨(some 18), (.pick (.tmp 12) (.const (.bool true)) (.tmp 17)), none⟩] false []) (.cond (.tmp 18) (.seq (.region [⟨(some 4), (.mov (.const (.bool false))), none⟩] false []) .ret) .skip)) (.seq (.seq (.region [⟨(some 19), (.faddr 3 (.tmp 3)), none⟩, ⟨(some 20), (.load false 1 (.tmp 19)), none⟩, ⟨(some 21), (.bin .eql 3 (.tmp 20) (.const (.int .i64 0))), none⟩] false []) (.cond (.tmp 21) (.seq (.region [⟨(some 22), (.faddr 2 (.tmp 3)), none⟩, ⟨(some 23), (.load false 1 (.tmp 22)), none⟩, ⟨(some 24), (.bin .eql 3 (.tmp 23) (.const (.int .i64 0))), none⟩, ⟨(some 4), (.mov (.tmp 24)), none⟩] false []) .ret) .skip)) (.seq (.region [⟨(some 25), (.faddr 3 (.tmp 3)), none⟩, ⟨(some 26), (.load false 1 (.tmp 25)), none⟩, ⟨(some 27), (.bin .geq 3 (.tmp 26) (.const (.int .i64 2))), none⟩, ⟨(some 28), (.mov (.tmp 27)), none⟩, ⟨(some 29), (.faddr 3 (.tmp 3)), (some ((some 28), true))⟩, ⟨(some 30), (.load false 1 (.tmp 29)), (some ((some 28), true))⟩, ⟨(some 31), (.bin .lss 3 (.tmp 30) (.const (.int .i64 16384))), (some ((some 28), true))⟩, ⟨(some 32), (.pick (.tmp 28) (.tmp 31) (.const (.bool false))), none⟩, ⟨(some 33), (.mov (.tmp 32)), none⟩, ⟨(some 34), (.faddr 2 (.tmp 3)), (some ((some 33), true))⟩, ⟨(some 35), (.load false 1 (.tmp 34)), (some ((some 33), true))⟩, ⟨(some 36), (.bin .gtr 3 (.tmp 35) (.const (.int .i64 32))), (some ((some 33), true))⟩, ⟨(some 37), (.pick (.tmp 33) (.tmp 36) (.const (.bool false))), none⟩, ⟨(some 38), (.mov (.tmp 37)), none⟩, ⟨(some 39), (.faddr 1 (.tmp 3)), (some ((some 38), true))⟩, ⟨(some 40), (.load false 1 (.tmp 39)), (some ((some 38), true))⟩, ⟨(some 41), (.len 0 (.tmp 40)), (some ((some 38), true))⟩, ⟨(some 42), (.bin .eql 3 (.tmp 41) (.const (.int .i64 0))), (some ((some 38), true))⟩, ⟨(some 43), (.pick (.tmp 38) (.tmp 42) (.const (.bool false))), none⟩, ⟨(some 4), (.mov (.tmp 43)), none⟩] false []) .ret))))
def r172 : List ARes := [(.tmp 4)]
def c173 : ACode := (.seq (.region [⟨(some 4), (.mov (.const (.bool false))), none⟩] false []) (.seq (.region [⟨(some 5), (.mov (.tmp 0)), none⟩, ⟨(some 6), (.mov (.tmp 1)), none⟩, ⟨(some 7), (.call (.func 187) [(.tmp 5), (.tmp 6)]), none⟩, ⟨(some 8), (.bin .geq 3 (.tmp 7) (.const (.int .i64 0))), none⟩, ⟨(some 4), (.mov (.tmp 8)), none⟩] false []) .ret))
def r173 : List ARes := [(.tmp 4)]
def c174 : ACode := (.seq (.region [⟨(some 1), (.box 4 (.tmp 0)), none⟩, ⟨(some 2), (.mov (.const (.bool false))), none⟩] false []) (.seq (.region [⟨(some 3), (.faddr 3 (.tmp 1)), none⟩, ⟨(some 4), (.load false 1 (.tmp 3)), none⟩, ⟨(some 5), (.bin .neq 3 (.tmp 4) (.const (.int .i64 0))), none⟩, ⟨(some 6), (.mov (.tmp 5)), none⟩, ⟨(some 7), (.faddr 1 (.tmp 1)), (some ((some 6), false))⟩, ⟨(some 8), (.load false 1 (.tmp 7)), (some ((some 6), false))⟩, ⟨(some 9), (.len 0 (.tmp 8)), (some ((some 6), false))⟩, ⟨(some 10), (.bin .gtr 3 (.tmp 9) (.const (.int .i64 32))), (some ((some 6), false))⟩, ⟨(some 11), (.pick (.tmp 6) (.const (.bool true)) (.tmp 10)), none⟩, ⟨(some 2), (.mov (.tmp 11)), none⟩] false []) .ret))
def r174 : List ARes := [(.tmp 2)]
def c175 : ACode := (.seq (.region [⟨(some 2), (.mov (.const (.int .i64 0))), none⟩] false []) (.seq (.region [⟨(some 3), (.mov (.tmp 0)), none⟩, ⟨(some 4), (.call (.func 176) [(.tmp 3)]), none⟩, ⟨(some 5), (.field false 2 1 (.tmp 4)), none⟩, ⟨(some 2), (.mov (.tmp 5)), none⟩] false []) .ret))
def r175 : List ARes := [(.tmp 2)]
def c176 : ACode := (.seq (.region [⟨(some 2), (.alloc [(.sc (.int .i64 0)), (.sc (.int .i64 0)), (.sc (.int .i64 0)), (.sc (.int .i64 0))]), none⟩] false []) (.seq (.seq (.region [⟨(some 3), (.mov (.tmp 0)), none⟩, ⟨(some 4), (.call (.func 140) [(.tmp 3)]), none⟩, ⟨(some 5), (.un .not (.tmp 4)), none⟩] false []) (.cond (.tmp 5) (.seq (.region [⟨(some 6), (.build [(.sc (.int .i64 0)), (.sc (.int .i64 0)), (.sc (.int .i64 0)), (.sc (.int .i64 0))] []), none⟩, ⟨none, (.store 4 (.tmp 2) (.tmp 6)), none⟩] false []) .ret) .skip)) (.seq (.region [⟨(some 7), (.build [(.sc (.int .i64 0)), (.sc (.int .i64 0)), (.sc (.int .i64 0)), (.sc (.int .i64 0))] [(0, (1, (.const (.int .i64 16)))), (1, (1, (.const (.int .i64 400)))), (2, (1, (.const (.int .i64 4)))), (3, (1, (.const (.int .i64 8))))]), none⟩, ⟨(some 8), (.build [(.sc (.int .i64 0)), (.sc (.int .i64 0)), (.sc (.int .i64 0)), (.sc (.int .i64 0))] [(0, (1, (.const (.int .i64 20)))), (1, (1, (.const (.int .i64 800)))), (2, (1, (.const (.int .i64 8)))), (3, (1, (.const (.int .i64 16))))]), none⟩, ⟨(some 9), (.build [(.sc (.int .i64 0)), (.sc (.int .i64 0)), (.sc (.int .i64 0)), (.sc (.int .i64 0))] [(0, (1, (.const (.int .i64 24)))), (1, (1, (.const (.int .i64 1600)))), (2, (1, (.const (.int .i64 8)))), (3, (1, (.const (.int .i64 16))))]), none⟩, ⟨(some 10), (.build [(.sc (.int .i64 0)), (.sc (.int .i64 0)), (.sc (.int .i64 0)), (.sc (.int .i64 0)), (.sc (.int .i64 0)), (.sc (.int .i64 0)), (.sc (.int .i64 0)), (.sc (.int .i64 0)), (.sc (.int .i64 0)), (.sc (.int .i64 0)), (.sc (.int .i64 0)), (.sc (.int .i64 0))] [(0, (4, (.tmp 7))), (4, (4, (.tmp 8))), (8, (4, (.tmp 9)))]), none⟩, ⟨(some 11), (.mov (.tmp 0)), none⟩, ⟨(some 12), (.bin .sub 3 (.tmp 11) (.const (.int .i64 1))), none⟩, ⟨(some 13), (.index 3 true 4 (.tmp 10) (.tmp 12)), none⟩, ⟨none, (.store 4 (.tmp 2) (.tmp 13)), none⟩] false []) .ret)))
def r176 : List ARes := [(.cell 2 true 4)]
def c179 : ACode := (.seq (.region [⟨(some 1), (.box 4 (.tmp 0)), none⟩, ⟨(some 2), (.mov (.const (.bool false))), none⟩] false []) (.seq (.region [⟨(some 3), (.faddr 3 (.tmp 1)), none⟩, ⟨(some 4), (.load false 1 (.tmp 3)), none⟩, ⟨(some 5), (.bin .neq 3 (.tmp 4) (.const (.int .i64 0))), none⟩, ⟨(some 6), (.mov (.tmp 5)), none⟩, ⟨(some 7), (.faddr 1 (.tmp 1)), (some ((some 6), false))⟩, ⟨(some 8), (.load false 1 (.tmp 7)), (some ((some 6), false))⟩, ⟨(some 9), (.len 0 (.tmp 8)), (some ((some 6), false))⟩, ⟨(some 10), (.bin .geq 3 (.tmp 9) (.const (.int .i64 33))), (some ((some 6), false))⟩, ⟨(some 11), (.pick (.tmp 6) (.const (.bool true)) (.tmp 10)), none⟩, ⟨(some 2), (.mov (.tmp 11)), none⟩] false []) .ret))
def r179 : List ARes := [(.tmp 2)]
def c184 : ACode := (.seq (.region [⟨(some 6), (.mov (.const (.int .i64 0))), none⟩] false []) (.seq (.block 0 (.seq (.region [⟨(some 8), (.mov (.tmp 0)), none⟩, ⟨(some 9), (.call (.func 140) [(.tmp 8)]), none⟩, ⟨(some 10), (.un .not (.tmp 9)), none⟩, ⟨(some 7), (.mov (.tmp 10)), none⟩] false []) (.cond (.tmp 7) (.seq (.region [⟨(some 6), (.mov (.const (.int .i64 1))), none⟩] false []) .ret) (.seq (.region [⟨(some 12), (.mov (.tmp 1)), none⟩, ⟨(some 13), (.len 0 (.tmp 12)), none⟩, ⟨(some 14), (.bin .eql 3 (.tmp 13) (.const (.int .i64 0))), none⟩, ⟨(some 15), (.mov (.tmp 14)), none⟩, ⟨(some 16), (.mov (.tmp 1)), (some ((some 15), false))⟩, ⟨(some 17), (.len 0 (.tmp 16)), (some ((some 15), false))⟩, ⟨(some 18), (.mov (.tmp 0)), (some ((some 15), false))⟩, ⟨(some 19), (.call (.func 170) [(.tmp 18)]), (some ((some 15), false))⟩, ⟨(some 20), (.bin .gtr 3 (.tmp 17) (.tmp 19)), (some ((some 15), false))⟩, ⟨(some 21), (.pick (.tmp 15) (.const (.bool true)) (.tmp 20)), none⟩, ⟨(some 11), (.mov (.tmp 21)), none⟩] false []) (.cond (.tmp 11) (.seq (.region [⟨(some 6), (.mov (.const (.int .i64 50))), none⟩] false []) .ret) (.seq (.region [⟨(some 23), (.mov (.tmp 2)), none⟩, ⟨(some 24), (.len 0 (.tmp 23)), none⟩, ⟨(some 25), (.mov (.tmp 0)), none⟩, ⟨(some 26), (.call (.func 186) [(.tmp 25)]), none⟩, ⟨(some 27), (.bin .gtr 3 (.tmp 24) (.tmp 26)), none⟩, ⟨(some 22), (.mov (.tmp 27)), none⟩] false []) (.cond (.tmp 22) (.seq (.region [⟨(some 6), (.mov (.const (.int .i64 51))), none⟩] false []) .ret) .skip))))))) (.seq (.region [⟨(some 6), (.mov (.const (.int .i64 0))), none⟩] false []) .ret)))
def r184 : List ARes := [(.tmp 6)]
def c185 : ACode := (.seq (.region [⟨(some 1), (.box 4 (.tmp 0)), none⟩, ⟨(some 2), (.mov (.const (.int .i64 0))), none⟩] false []) (.seq (.seq (.region [⟨(some 3), (.faddr 3 (.tmp 1)), none⟩, ⟨(some 4), (.load false 1 (.tmp 3)), none⟩, ⟨(some 5), (.bin .neq 3 (.tmp 4) (.const (.int .i64 0))), none⟩] false []) (.cond (.tmp 5) (.seq (.region [⟨(some 6), (.faddr 2 (.tmp 1)), none⟩, ⟨(some 7), (.load false 1 (.tmp 6)), none⟩, ⟨(some 2), (.mov (.tmp 7)), none⟩] false []) .ret) .skip)) (.seq (.region [⟨(some 8), (.faddr 1 (.tmp 1)), none⟩, ⟨(some 9), (.load false 1 (.tmp 8)), none⟩, ⟨(some 10), (.len 0 (.tmp 9)), none⟩, ⟨(some 2), (.mov (.tmp 10)), none⟩] false []) .ret)))
def r185 : List ARes := [(.tmp 2)]
def c186 : ACode := (.seq (.region [⟨(some 2), (.mov (.const (.int .i64 0))), none⟩] false []) (.seq (.region [⟨(some 3), (.mov (.tmp 0)), none⟩, ⟨(some 4), (.call (.func 176) [(.tmp 3)]), none⟩, ⟨(some 5), (.field false 1 1 (.tmp 4)), none⟩, ⟨(some 2), (.mov (.tmp 5)), none⟩] false []) .ret))
def r186 : List ARes := [(.tmp 2)]
def c187L0 : ACode := (.seq (.region [⟨(some 9), (.bin .lss 3 (.tmp 8) (.tmp 7)), none⟩] false []) (.seq (.cond (.tmp 9) .skip (.exit 0)) (.seq (.block 1 (.seq (.region [⟨(some 10), (.mov (.tmp 8)), none⟩, ⟨(some 5), (.mov (.tmp 10)), none⟩] false []) (.seq (.region [⟨(some 11), (.mov (.tmp 1)), none⟩, ⟨(some 12), (.mov (.tmp 0)), none⟩, ⟨(some 13), (.mov (.tmp 5)), none⟩, ⟨(some 14), (.iaddr none 4 (.tmp 12) (.tmp 13)), none⟩, ⟨(some 15), (.load true 4 (.tmp 14)), none⟩, ⟨(some 16), (.call (.tmp 11) [(.tmp 15)]), none⟩] false []) (.cond (.tmp 16) (.seq (.region [⟨(some 17), (.mov (.tmp 5)), none⟩, ⟨(some 4), (.mov (.tmp 17)), none⟩] false []) .ret) .skip)))) (.region [⟨(some 18), (.bin .add 3 (.tmp 8) (.const (.int .i64 1))), none⟩, ⟨(some 8), (.mov (.tmp 18)), none⟩] false []))))
def c187R1 : ACode := (.seq (.region [⟨(some 4), (.mov (.const (.int .i64 (-1)))), none⟩] false []) .ret)
def c187 : ACode := (.seq (.region [⟨(some 4), (.mov (.const (.int .i64 0))), none⟩] false []) (.seq (.seq (.region [⟨(some 6), (.mov (.tmp 0)), none⟩, ⟨(some 7), (.len 0 (.tmp 6)), none⟩, ⟨(some 8), (.mov (.const (.int .i64 0))), none⟩] false []) (.block 0 (.loop c187L0))) c187R1))
def r187 : List ARes := [(.tmp 4)]
def ft : FT
  | 20 => some (.go true 40 r20 c20)
  | 21 => some (.go true 13 r21 c21)
  | 23 => some (.go true 10 r23 c23)
  | 26 => some (.go true 11 r26 c26)
  | 27 => some (.go true 33 r27 c27)
  | 28 => some (.go true 26 r28 c28)
  | 29 => some (.go true 124 r29 c29)
  | 30 => some (.go true 65 r30 c30)
  | 32 => some (.go true 37 r32 c32)
  | 33 => some (.go true 21 r33 c33)
  | 34 => some (.go true 11 r34 c34)
  | 75 => some (.go true 10 r75 c75)
  | 76 => some (.go true 12 r76 c76)
  | 78 => some (.go true 27 r78 c78)
  | 79 => some (.go true 29 r79 c79)
  | 80 => some (.go true 21 r80 c80)
  | 81 => some (.go true 12 r81 c81)
  | 82 => some (.go false 46 r82 c82)
  | 83 => some (.go true 43 r83 c83)
  | 84 => some (.go true 49 r84 c84)
  | 85 => some (.go true 38 r85 c85)
  | 86 => some (.go true 13 r86 c86)
  | 89 => some (.go true 46 r89 c89)
  | 90 => some (.go true 9 r90 c90)
  | 93 => some (.go true 36 r93 c93)
  | 94 => some (.go true 36 r94 c94)
  | 95 => some (.go true 17 r95 c95)
  | 96 => some (.go true 32 r96 c96)
  | 97 => some (.go true 31 r97 c97)
  | 98 => some (.go true 32 r98 c98)
  | 99 => some (.go true 5 r99 c99)
  | 100 => some (.go true 5 r100 c100)
  | 104 => some (.go true 33 r104 c104)
  | 134 => some (.go true 49 r134 c134)
  | 135 => some (.go true 9 r135 c135)
  | 136 => some (.go true 8 r136 c136)
  | 138 => some (.go true 61 r138 c138)
  | 139 => some (.go true 18 r139 c139)
  | 140 => some (.go true 9 r140 c140)
  | 141 => some (.go true 21 r141 c141)
  | 142 => some (.go true 38 r142 c142)
  | 143 => some (.go true 27 r143 c143)
  | 144 => some (.go true 14 r144 c144)
  | 145 => some (.go true 5 r145 c145)
  | 146 => some (.go true 6 r146 c146)
  | 147 => some (.go false 27 r147 c147)
  | 148 => some (.go false 27 r148 c148)
  | 149 => some (.go true 19 r149 c149)
  | 156 => some (.go true 25 r156 c156)
  | 157 => some (.go true 5 r157 c157)
  | 169 => some (.go true 8 r169 c169)
  | 170 => some (.go true 6 r170 c170)
  | 171 => some (.go true 8 r171 c171)
  | 172 => some (.go true 44 r172 c172)
  | 173 => some (.go true 9 r173 c173)
  | 174 => some (.go true 12 r174 c174)
  | 175 => some (.go true 6 r175 c175)
  | 176 => some (.go true 14 r176 c176)
  | 179 => some (.go true 12 r179 c179)
  | 184 => some (.go true 28 r184 c184)
  | 185 => some (.go true 11 r185 c185)
  | 186 => some (.go true 6 r186 c186)
  | 187 => some (.go true 19 r187 c187)
  | 101 => some (.pprim (cloF 4 64))
  | 91 => some (.prim (cloP 2 32))
  | 92 => some (.pprim (cloF 1 1))
  | 183 => some (.pprim cmpP)
  | 150 => some (.prim ovP)
  | 153 => some (.prim ovP)
  | 102 => some (.prim (insP 4 64))
  | 152 => some (.prim (insP 2 32))
  | 103 => some (.prim (repP 2 32))
  | 137 => some (.prim (delP 4 64))
  | _ => none
/-- The functions above: ftX. Its rows without primitives. -/
def ftL : FT
  | 4 => some (.go true 78 r4 c4)
  | 19 => some (.go true 152 r19 c19)
  | 31 => some (.go true 34 r31 c31)
  | 77 => some (.go true 29 r77 c77)
  | k => ft k
end Go.VI

set_option maxRecDepth 100000
namespace Go.VI
def zI : List AV := [.sc (.slice none 0 0), .sc (.slice none 0 0), .sc (.int .i64 0), .sc (.int .i64 0)]
def zK : List AV := [.sc (.slice none 0 0), .sc (.int .i64 0)]
theorem t_insI : c102 = insC 4 64 zI 150 151 := rfl
theorem t_insK : c152 = insC 2 32 zK 153 154 := rfl
theorem t_repK : c103 = repC 2 32 zK 152 153 154 155 := rfl
theorem t_delI : c137 = delC 4 64 zI := rfl
theorem t_cloI : c101 = cloC 4 64 zI := rfl
theorem t_cloK : c91 = cloC 2 32 zK := rfl
theorem t_cloB : c92 = cloC 1 1 [.sc (.int .u8 0)] := rfl
end Go.VI

set_option linter.unusedVariables false
set_option linter.unusedSimpArgs false
set_option maxRecDepth 100000
namespace Go.VI
attribute [local congr] AW_congr OW_congr DW_congr NW_congr VW_congr GW_congr PW_congr KW_congr ite_congr' GV_congr CV_congr
abbrev Bytes := List Int
structure ItemM where
  key : Bytes
  value : Bytes
  size : Int
  ref : Int
structure KidM where
  key : Bytes
  ref : Int
structure NodeM where
  leaf : Bool
  items : List ItemM
  kids : List KidM
structure NamedM where
  ref : Int
  n : NodeM
structure StepM where
  ref : Int
  n : NodeM
  k : Int
def MX : Nat := 140737488355328
def int (n : Int) : AV := .sc (.int .i64 n)
def boolA (b : Bool) : AV := .sc (.bool b)
def byteC (n : Int) : List AV := [.sc (.int .u8 n)]
def encB (l : Bytes) : AV := .lst (l.map byteC)
def itemC (x : ItemM) : List AV := [encB x.key, encB x.value, int x.size, int x.ref]
def encI (l : List ItemM) : AV := .lst (l.map itemC)
def kidC (x : KidM) : List AV := [encB x.key, int x.ref]
def encK (l : List KidM) : AV := .lst (l.map kidC)
def nodeC (n : NodeM) : List AV := [boolA n.leaf, encI n.items, encK n.kids]
def namedC (x : NamedM) : List AV := int x.ref :: nodeC x.n
def encL (l : List NamedM) : AV := .lst (l.map namedC)
def stepC (x : StepM) : List AV := [int x.ref, boolA x.n.leaf, encI x.n.items, encK x.n.kids, int x.k]
def encS (l : List StepM) : AV := .lst (l.map stepC)
section
variable {H : Heap} {K : Heap} {L : List Blk}
theorem len_byteC (n : Int) : (byteC n).length = 1 := rfl
theorem len_itemC (x : ItemM) : (itemC x).length = 4 := rfl
theorem len_kidC (x : KidM) : (kidC x).length = 2 := rfl
theorem len_namedC (x : NamedM) : (namedC x).length = 4 := rfl
theorem len_stepC (x : StepM) : (stepC x).length = 5 := rfl
theorem lenB (l : Bytes) : lenV H 0 (encB l) = some (.sc (.int .i64 (l.length : Int)), H) := by simp [lenV, lenOfA, encB]
theorem lenI (l : List ItemM) : lenV H 0 (encI l) = some (.sc (.int .i64 (l.length : Int)), H) := by simp [lenV, lenOfA, encI]
theorem lenK (l : List KidM) : lenV H 0 (encK l) = some (.sc (.int .i64 (l.length : Int)), H) := by simp [lenV, lenOfA, encK]
theorem lenL (l : List NamedM) : lenV H 0 (encL l) = some (.sc (.int .i64 (l.length : Int)), H) := by simp [lenV, lenOfA, encL]
theorem lenS (l : List StepM) : lenV H 0 (encS l) = some (.sc (.int .i64 (l.length : Int)), H) := by simp [lenV, lenOfA, encS]
theorem atB {l : Bytes} {i : Nat} (h : i < l.length) : iaddrA H none 1 (encB l) (i : Int) = some (.pim (l.map byteC) i 0) := iaddr_map h len_byteC
theorem atI {l : List ItemM} {i : Nat} (h : i < l.length) : iaddrA H none 4 (encI l) (i : Int) = some (.pim (l.map itemC) i 0) := iaddr_map h len_itemC
theorem atK {l : List KidM} {i : Nat} (h : i < l.length) : iaddrA H none 2 (encK l) (i : Int) = some (.pim (l.map kidC) i 0) := iaddr_map h len_kidC
theorem cB {l : Bytes} {i off n : Nat} (h : i < l.length) : cellsAt H (.pim (l.map byteC) i off) n = if off + n ≤ 1 then some (((byteC l[i]).drop off).take n) else none := cells_map h
theorem cI {l : List ItemM} {i off n : Nat} (h : i < l.length) : cellsAt H (.pim (l.map itemC) i off) n = if off + n ≤ 4 then some (((itemC l[i]).drop off).take n) else none := cells_map h
theorem cK {l : List KidM} {i off n : Nat} (h : i < l.length) : cellsAt H (.pim (l.map kidC) i off) n = if off + n ≤ 2 then some (((kidC l[i]).drop off).take n) else none := cells_map h
end
section
theorem zi (n : Nat) (H : Heap) (x : ItemM) : frz.frzL (n + 6) H (itemC x) = some (itemC x, H) := rfl
theorem zk (n : Nat) (H : Heap) (x : KidM) : frz.frzL (n + 4) H (kidC x) = some (kidC x, H) := rfl
theorem zn (n : Nat) (H : Heap) (x : NodeM) : frz.frzL (n + 5) H (nodeC x) = some (nodeC x, H) := rfl
theorem zm (n : Nat) (H : Heap) (x : NamedM) : frz.frzL (n + 6) H (namedC x) = some (namedC x, H) := rfl
theorem zs (n : Nat) (H : Heap) (x : StepM) : frz.frzL (n + 7) H (stepC x) = some (stepC x, H) := rfl
theorem fz_i (H : Heap) (x : ItemM) : frz.frzL 24 H (itemC x) = some (itemC x, H) := rfl
theorem fz_k (H : Heap) (x : KidM) : frz.frzL 24 H (kidC x) = some (kidC x, H) := rfl
theorem i_all (x : ItemM) : (itemC x).take 4 = itemC x := rfl
theorem i_0 (x : ItemM) : (itemC x).take 1 = [encB x.key] := rfl
theorem i_1 (x : ItemM) : ((itemC x).drop 1).take 1 = [encB x.value] := rfl
theorem i_2 (x : ItemM) : ((itemC x).drop 2).take 1 = [int x.size] := rfl
theorem i_3 (x : ItemM) : ((itemC x).drop 3).take 1 = [int x.ref] := rfl
theorem i_one (x : ItemM) : oneAll (itemC x) = true := rfl
theorem k_all (x : KidM) : (kidC x).take 2 = kidC x := rfl
theorem k_0 (x : KidM) : (kidC x).take 1 = [encB x.key] := rfl
theorem k_1 (x : KidM) : ((kidC x).drop 1).take 1 = [int x.ref] := rfl
theorem k_one (x : KidM) : oneAll (kidC x) = true := rfl
theorem n_all (x : NodeM) : (nodeC x).take 3 = nodeC x := rfl
theorem n_0 (x : NodeM) : (nodeC x).take 1 = [boolA x.leaf] := rfl
theorem n_1 (x : NodeM) : ((nodeC x).drop 1).take 1 = [encI x.items] := rfl
theorem n_2 (x : NodeM) : ((nodeC x).drop 2).take 1 = [encK x.kids] := rfl
theorem n_one (x : NodeM) : oneAll (nodeC x) = true := rfl
theorem len_nodeC (x : NodeM) : (nodeC x).length = 3 := rfl
theorem m_all (x : NamedM) : (namedC x).take 4 = namedC x := rfl
theorem m_0 (x : NamedM) : (namedC x).take 1 = [int x.ref] := rfl
theorem m_n (x : NamedM) : ((namedC x).drop 1).take 3 = nodeC x.n := rfl
theorem m_1 (x : NamedM) : ((namedC x).drop 1).take 1 = [boolA x.n.leaf] := rfl
theorem m_2 (x : NamedM) : ((namedC x).drop 2).take 1 = [encI x.n.items] := rfl
theorem m_3 (x : NamedM) : ((namedC x).drop 3).take 1 = [encK x.n.kids] := rfl
theorem m_one (x : NamedM) : oneAll (namedC x) = true := rfl
theorem s_all (x : StepM) : (stepC x).take 5 = stepC x := rfl
theorem s_0 (x : StepM) : (stepC x).take 1 = [int x.ref] := rfl
theorem s_n (x : StepM) : ((stepC x).drop 1).take 3 = nodeC x.n := rfl
theorem s_1 (x : StepM) : ((stepC x).drop 1).take 1 = [boolA x.n.leaf] := rfl
theorem s_2 (x : StepM) : ((stepC x).drop 2).take 1 = [encI x.n.items] := rfl
theorem s_3 (x : StepM) : ((stepC x).drop 3).take 1 = [encK x.n.kids] := rfl
theorem s_4 (x : StepM) : ((stepC x).drop 4).take 1 = [int x.k] := rfl
theorem s_one (x : StepM) : oneAll (stepC x) = true := rfl
theorem frz_B (n : Nat) (H : Heap) (l : Bytes) : frz (n + 1) H (encB l) = some (encB l, H) := rfl
theorem frz_I (n : Nat) (H : Heap) (l : List ItemM) : frz (n + 1) H (encI l) = some (encI l, H) := rfl
theorem frz_K (n : Nat) (H : Heap) (l : List KidM) : frz (n + 1) H (encK l) = some (encK l, H) := rfl
theorem frz_L (n : Nat) (H : Heap) (l : List NamedM) : frz (n + 1) H (encL l) = some (encL l, H) := rfl
theorem frz_S (n : Nat) (H : Heap) (l : List StepM) : frz (n + 1) H (encS l) = some (encS l, H) := rfl
theorem one_B (l : Bytes) : (encB l).one = true := rfl
theorem one_I (l : List ItemM) : (encI l).one = true := rfl
theorem one_K (l : List KidM) : (encK l).one = true := rfl
theorem one_L (l : List NamedM) : (encL l).one = true := rfl
theorem one_S (l : List StepM) : (encS l).one = true := rfl
theorem cs_B (l : Bytes) : (encB l).cells = [encB l] := rfl
theorem cs_I (l : List ItemM) : (encI l).cells = [encI l] := rfl
theorem cs_K (l : List KidM) : (encK l).cells = [encK l] := rfl
theorem cs_L (l : List NamedM) : (encL l).cells = [encL l] := rfl
theorem cs_S (l : List StepM) : (encS l).cells = [encS l] := rfl
set_option linter.defProp false
def da := (⟨@zi, @zk, @zn, @zm, @zs, @fz_i, @fz_k, @lenB, @lenI, @lenK, @lenL, @lenS, @i_all, @i_0, @i_1, @i_2, @i_3, @i_one, @k_all, @k_0, @k_1, @k_one, @n_all, @n_0, @n_1, @n_2, @n_one, @len_nodeC, @m_all, @m_0, @m_n, @m_1, @m_2, @m_3, @m_one, @s_all, @s_0, @s_n, @s_1, @s_2, @s_3, @s_4, @s_one, @len_itemC, @len_kidC, @len_namedC, @len_stepC, @frz_B, @frz_I, @frz_K, @frz_L, @frz_S, @one_B, @one_I, @one_K, @one_L, @one_S, @cs_B, @cs_I, @cs_K, @cs_L, @cs_S⟩ : _ ∧ _ ∧ _ ∧ _ ∧ _ ∧ _ ∧ _ ∧ _ ∧ _ ∧ _ ∧ _ ∧ _ ∧ _ ∧ _ ∧ _ ∧ _ ∧ _ ∧ _ ∧ _ ∧ _ ∧ _ ∧ _ ∧ _ ∧ _ ∧ _ ∧ _ ∧ _ ∧ _ ∧ _ ∧ _ ∧ _ ∧ _ ∧ _ ∧ _ ∧ _ ∧ _ ∧ _ ∧ _ ∧ _ ∧ _ ∧ _ ∧ _ ∧ _ ∧ _ ∧ _ ∧ _ ∧ _ ∧ _ ∧ _ ∧ _ ∧ _ ∧ _ ∧ _ ∧ _ ∧ _ ∧ _ ∧ _ ∧ _ ∧ _ ∧ _ ∧ _ ∧ _)
end
theorem cmpB_end {a b : Bytes} {i : Nat} (h : a.length ≤ i ∨ b.length ≤ i) (hia : i ≤ a.length) (hib : i ≤ b.length) : cmpB (a.drop i) (b.drop i) = if a.length < b.length then -1 else if b.length < a.length then 1 else 0 := by
  by_cases ha : a.length = i
  · rw [List.drop_eq_nil_of_le (by omega)]
    by_cases hb : b.length = i
    · rw [List.drop_eq_nil_of_le (by omega), if_neg (by omega), if_neg (by omega)]
      rfl
    · rw [List.drop_eq_getElem_cons (by omega : i < b.length), if_pos (by omega)]
      rfl
  · have hb : b.length = i := by omega
    rw [List.drop_eq_nil_of_le (by omega : b.length ≤ i), List.drop_eq_getElem_cons (by omega : i < a.length), if_neg (by omega), if_pos (by omega)]
    rfl
theorem cmpB_step {a b : Bytes} {i : Nat} (ha : i < a.length) (hb : i < b.length) : cmpB (a.drop i) (b.drop i) = if a[i] < b[i] then -1 else if b[i] < a[i] then 1 else cmpB (a.drop (i + 1)) (b.drop (i + 1)) := by
  rw [List.drop_eq_getElem_cons ha, List.drop_eq_getElem_cons hb]
  rfl
theorem l89 (a b : Bytes) (ha : a.length < MX) (hb : b.length < MX) {H : Heap} {L : List Blk} {Q : AExit → Env → Heap → Prop}
   (hex : ∀ f', f' 0 = encB a → f' 1 = encB b → cmpB a b = (if a.length < b.length then -1 else if b.length < a.length then 1 else 0) → Q (.exit 0) (mkE 46 f') (hx H L))
   (hret : ∀ f', f' 4 = int (cmpB a b) → Q .ret (mkE 46 f') (hx H L)) : ∀ (d i : Nat) (f : Nat → AV), i + d = a.length → i ≤ b.length → cmpB a b = cmpB (a.drop i) (b.drop i) → f 0 = encB a → f 1 = encB b → f 5 = int i →
    AW ft (.loop c89L0) (mkE 46 f) (hx H L) Q := by
  intro d
  unfold MX at ha hb
  induction d with
  | zero =>
    intro i f hd hib hc h0 h1 h5
    have g : ((i : Int) < a.length) = False := by simp; omega
    rw [AW_loop]
    unfold c89L0
    simp only [↓vp, vq0, vq1, vq2, vq3, vr0, vr1, vr2, vr3, vr4, vr5, vr6, vr7, vr8, vr9, vr10, vr11, vr12, vr13, vr14, vr15, vr16, vr17, vr18, vr19, vr20, vr21, vr22, vr23, vr24, vr25, vr26, vr27, vr28, vr29, vr30, vr31, vr32, vr33, vr34, opS, fpS, okP, pack, nAl, allocA, shId, leaves, fillA, fillR, splice, Nat.reduceLT, Nat.reduceEqDiff, Nat.reduceLeDiff, Nat.reduceAdd, Nat.reduceSub, Nat.reduceMul, Int.reduceBEq, Int.reduceBNe, Int.reduceLT, Int.reduceLE, Int.reduceEq, reduceIte, reduceCtorEq, lenB, int, h0, h1, h5, g]
    exact hex _ h0 h1 (hc.trans (cmpB_end (by omega) (by omega) (by omega)))
  | succ d ih =>
    intro i f hd hib hc h0 h1 h5
    have g : ((i : Int) < a.length) = True := by simp; omega
    have gi : i < a.length := by omega
    rw [AW_loop]
    unfold c89L0
    by_cases hb' : i < b.length
    · have g2 : ((i : Int) < b.length) = True := by simp; omega
      have hs := cmpB_step gi hb'
      simp only [↓vp, vq0, vq1, vq2, vq3, vr0, vr1, vr2, vr3, vr4, vr5, vr6, vr7, vr8, vr9, vr10, vr11, vr12, vr13, vr14, vr15, vr16, vr17, vr18, vr19, vr20, vr21, vr22, vr23, vr24, vr25, vr26, vr27, vr28, vr29, vr30, vr31, vr32, vr33, vr34, opS, fpS, okP, pack, nAl, allocA, shId, leaves, fillA, fillR, splice, Nat.reduceLT, Nat.reduceEqDiff, Nat.reduceLeDiff, Nat.reduceAdd, Nat.reduceSub, Nat.reduceMul, Int.reduceBEq, Int.reduceBNe, Int.reduceLT, Int.reduceLE, Int.reduceEq, reduceIte, reduceCtorEq, lenB, int, h0, h1, h5, g, g2, atB gi, atB hb', cB gi, cB hb', byteC, wrap_succ (show i < 9223372036854775807 by omega)]
      split
      · rename_i hlt
        refine hret _ ?_
        simp only [↓vp, vq0, vq1, vq2, vq3, vr0, vr1, vr2, vr3, vr4, vr5, vr6, vr7, vr8, vr9, vr10, vr11, vr12, vr13, vr14, vr15, vr16, vr17, vr18, vr19, vr20, vr21, vr22, vr23, vr24, vr25, vr26, vr27, vr28, vr29, vr30, vr31, vr32, vr33, vr34, opS, fpS, okP, pack, nAl, allocA, shId, leaves, fillA, fillR, splice, Nat.reduceLT, Nat.reduceEqDiff, Nat.reduceLeDiff, Nat.reduceAdd, Nat.reduceSub, Nat.reduceMul, Int.reduceBEq, Int.reduceBNe, Int.reduceLT, Int.reduceLE, Int.reduceEq, reduceIte, reduceCtorEq]
        rw [hc, hs, if_pos hlt]
        rfl
      · rename_i hnl
        split
        · rename_i hgt
          refine hret _ ?_
          simp only [↓vp, vq0, vq1, vq2, vq3, vr0, vr1, vr2, vr3, vr4, vr5, vr6, vr7, vr8, vr9, vr10, vr11, vr12, vr13, vr14, vr15, vr16, vr17, vr18, vr19, vr20, vr21, vr22, vr23, vr24, vr25, vr26, vr27, vr28, vr29, vr30, vr31, vr32, vr33, vr34, opS, fpS, okP, pack, nAl, allocA, shId, leaves, fillA, fillR, splice, Nat.reduceLT, Nat.reduceEqDiff, Nat.reduceLeDiff, Nat.reduceAdd, Nat.reduceSub, Nat.reduceMul, Int.reduceBEq, Int.reduceBNe, Int.reduceLT, Int.reduceLE, Int.reduceEq, reduceIte, reduceCtorEq]
          rw [hc, hs, if_neg hnl, if_pos hgt]
          rfl
        · rename_i hng
          refine ih (i + 1) _ (by omega) (by omega) ?_ ?_ ?_ ?_
          · rw [hc, hs, if_neg hnl, if_neg hng]
          · simp only [↓vp, vq0, vq1, vq2, vq3, vr0, vr1, vr2, vr3, vr4, vr5, vr6, vr7, vr8, vr9, vr10, vr11, vr12, vr13, vr14, vr15, vr16, vr17, vr18, vr19, vr20, vr21, vr22, vr23, vr24, vr25, vr26, vr27, vr28, vr29, vr30, vr31, vr32, vr33, vr34, opS, fpS, okP, pack, nAl, allocA, shId, leaves, fillA, fillR, splice, Nat.reduceLT, Nat.reduceEqDiff, Nat.reduceLeDiff, Nat.reduceAdd, Nat.reduceSub, Nat.reduceMul, Int.reduceBEq, Int.reduceBNe, Int.reduceLT, Int.reduceLE, Int.reduceEq, reduceIte, reduceCtorEq, h0]
          · simp only [↓vp, vq0, vq1, vq2, vq3, vr0, vr1, vr2, vr3, vr4, vr5, vr6, vr7, vr8, vr9, vr10, vr11, vr12, vr13, vr14, vr15, vr16, vr17, vr18, vr19, vr20, vr21, vr22, vr23, vr24, vr25, vr26, vr27, vr28, vr29, vr30, vr31, vr32, vr33, vr34, opS, fpS, okP, pack, nAl, allocA, shId, leaves, fillA, fillR, splice, Nat.reduceLT, Nat.reduceEqDiff, Nat.reduceLeDiff, Nat.reduceAdd, Nat.reduceSub, Nat.reduceMul, Int.reduceBEq, Int.reduceBNe, Int.reduceLT, Int.reduceLE, Int.reduceEq, reduceIte, reduceCtorEq, h1]
          · simp only [↓vp, vq0, vq1, vq2, vq3, vr0, vr1, vr2, vr3, vr4, vr5, vr6, vr7, vr8, vr9, vr10, vr11, vr12, vr13, vr14, vr15, vr16, vr17, vr18, vr19, vr20, vr21, vr22, vr23, vr24, vr25, vr26, vr27, vr28, vr29, vr30, vr31, vr32, vr33, vr34, opS, fpS, okP, pack, nAl, allocA, shId, leaves, fillA, fillR, splice, Nat.reduceLT, Nat.reduceEqDiff, Nat.reduceLeDiff, Nat.reduceAdd, Nat.reduceSub, Nat.reduceMul, Int.reduceBEq, Int.reduceBNe, Int.reduceLT, Int.reduceLE, Int.reduceEq, reduceIte, reduceCtorEq, int]
    · have g2 : ((i : Int) < b.length) = False := by simp; omega
      simp only [↓vp, vq0, vq1, vq2, vq3, vr0, vr1, vr2, vr3, vr4, vr5, vr6, vr7, vr8, vr9, vr10, vr11, vr12, vr13, vr14, vr15, vr16, vr17, vr18, vr19, vr20, vr21, vr22, vr23, vr24, vr25, vr26, vr27, vr28, vr29, vr30, vr31, vr32, vr33, vr34, opS, fpS, okP, pack, nAl, allocA, shId, leaves, fillA, fillR, splice, Nat.reduceLT, Nat.reduceEqDiff, Nat.reduceLeDiff, Nat.reduceAdd, Nat.reduceSub, Nat.reduceMul, Int.reduceBEq, Int.reduceBNe, Int.reduceLT, Int.reduceLE, Int.reduceEq, reduceIte, reduceCtorEq, lenB, int, h0, h1, h5, g, g2]
      exact hex _ h0 h1 (hc.trans (cmpB_end (by omega) (by omega) (by omega)))
theorem s89 (a b : Bytes) (ha : a.length < MX) (hb : b.length < MX) (H : Heap) : callL ft (.fn (.func 89) [] []) [encB a, encB b] H = some (int (cmpB a b), H) := by
  refine call_p (as' := [encB a, encB b]) rfl rfl (by simp) ?_
  unfold c89
  simp only [↓vp, vq0, vq1, vq2, vq3, vr0, vr1, vr2, vr3, vr4, vr5, vr6, vr7, vr8, vr9, vr10, vr11, vr12, vr13, vr14, vr15, vr16, vr17, vr18, vr19, vr20, vr21, vr22, vr23, vr24, vr25, vr26, vr27, vr28, vr29, vr30, vr31, vr32, vr33, vr34, opS, fpS, okP, pack, nAl, allocA, shId, leaves, fillA, fillR, splice, Nat.reduceLT, Nat.reduceEqDiff, Nat.reduceLeDiff, Nat.reduceAdd, Nat.reduceSub, Nat.reduceMul, Int.reduceBEq, Int.reduceBNe, Int.reduceLT, Int.reduceLE, Int.reduceEq, reduceIte, reduceCtorEq]
  refine l89 a b ha hb (fun f' h0 h1 hc => ?_) (fun f' h4 => ?_) a.length 0 _ (by omega) (by omega) rfl ?_ ?_ ?_
  · unfold c89R1
    by_cases g1 : a.length < b.length
    · have g1' : ((a.length : Int) < b.length) = True := by simp; omega
      simp only [↓vp, vq0, vq1, vq2, vq3, vr0, vr1, vr2, vr3, vr4, vr5, vr6, vr7, vr8, vr9, vr10, vr11, vr12, vr13, vr14, vr15, vr16, vr17, vr18, vr19, vr20, vr21, vr22, vr23, vr24, vr25, vr26, vr27, vr28, vr29, vr30, vr31, vr32, vr33, vr34, opS, fpS, okP, pack, nAl, allocA, shId, leaves, fillA, fillR, splice, Nat.reduceLT, Nat.reduceEqDiff, Nat.reduceLeDiff, Nat.reduceAdd, Nat.reduceSub, Nat.reduceMul, Int.reduceBEq, Int.reduceBNe, Int.reduceLT, Int.reduceLE, Int.reduceEq, reduceIte, reduceCtorEq, h0, h1, lenB, g1']
      refine ret1 rfl (by decide) ?_
      simp only [↓vp, vq0, vq1, vq2, vq3, vr0, vr1, vr2, vr3, vr4, vr5, vr6, vr7, vr8, vr9, vr10, vr11, vr12, vr13, vr14, vr15, vr16, vr17, vr18, vr19, vr20, vr21, vr22, vr23, vr24, vr25, vr26, vr27, vr28, vr29, vr30, vr31, vr32, vr33, vr34, opS, fpS, okP, pack, nAl, allocA, shId, leaves, fillA, fillR, splice, Nat.reduceLT, Nat.reduceEqDiff, Nat.reduceLeDiff, Nat.reduceAdd, Nat.reduceSub, Nat.reduceMul, Int.reduceBEq, Int.reduceBNe, Int.reduceLT, Int.reduceLE, Int.reduceEq, reduceIte, reduceCtorEq]
      rw [hc, if_pos g1]
      exact ⟨_, rfl⟩
    · have g1' : ((a.length : Int) < b.length) = False := by simp; omega
      by_cases g2 : b.length < a.length
      · have g2' : ((b.length : Int) < a.length) = True := by simp; omega
        simp only [↓vp, vq0, vq1, vq2, vq3, vr0, vr1, vr2, vr3, vr4, vr5, vr6, vr7, vr8, vr9, vr10, vr11, vr12, vr13, vr14, vr15, vr16, vr17, vr18, vr19, vr20, vr21, vr22, vr23, vr24, vr25, vr26, vr27, vr28, vr29, vr30, vr31, vr32, vr33, vr34, opS, fpS, okP, pack, nAl, allocA, shId, leaves, fillA, fillR, splice, Nat.reduceLT, Nat.reduceEqDiff, Nat.reduceLeDiff, Nat.reduceAdd, Nat.reduceSub, Nat.reduceMul, Int.reduceBEq, Int.reduceBNe, Int.reduceLT, Int.reduceLE, Int.reduceEq, reduceIte, reduceCtorEq, h0, h1, lenB, g1', g2']
        refine ret1 rfl (by decide) ?_
        simp only [↓vp, vq0, vq1, vq2, vq3, vr0, vr1, vr2, vr3, vr4, vr5, vr6, vr7, vr8, vr9, vr10, vr11, vr12, vr13, vr14, vr15, vr16, vr17, vr18, vr19, vr20, vr21, vr22, vr23, vr24, vr25, vr26, vr27, vr28, vr29, vr30, vr31, vr32, vr33, vr34, opS, fpS, okP, pack, nAl, allocA, shId, leaves, fillA, fillR, splice, Nat.reduceLT, Nat.reduceEqDiff, Nat.reduceLeDiff, Nat.reduceAdd, Nat.reduceSub, Nat.reduceMul, Int.reduceBEq, Int.reduceBNe, Int.reduceLT, Int.reduceLE, Int.reduceEq, reduceIte, reduceCtorEq]
        rw [hc, if_neg g1, if_pos g2]
        exact ⟨_, rfl⟩
      · have g2' : ((b.length : Int) < a.length) = False := by simp; omega
        simp only [↓vp, vq0, vq1, vq2, vq3, vr0, vr1, vr2, vr3, vr4, vr5, vr6, vr7, vr8, vr9, vr10, vr11, vr12, vr13, vr14, vr15, vr16, vr17, vr18, vr19, vr20, vr21, vr22, vr23, vr24, vr25, vr26, vr27, vr28, vr29, vr30, vr31, vr32, vr33, vr34, opS, fpS, okP, pack, nAl, allocA, shId, leaves, fillA, fillR, splice, Nat.reduceLT, Nat.reduceEqDiff, Nat.reduceLeDiff, Nat.reduceAdd, Nat.reduceSub, Nat.reduceMul, Int.reduceBEq, Int.reduceBNe, Int.reduceLT, Int.reduceLE, Int.reduceEq, reduceIte, reduceCtorEq, h0, h1, lenB, g1', g2']
        refine ret1 rfl (by decide) ?_
        simp only [↓vp, vq0, vq1, vq2, vq3, vr0, vr1, vr2, vr3, vr4, vr5, vr6, vr7, vr8, vr9, vr10, vr11, vr12, vr13, vr14, vr15, vr16, vr17, vr18, vr19, vr20, vr21, vr22, vr23, vr24, vr25, vr26, vr27, vr28, vr29, vr30, vr31, vr32, vr33, vr34, opS, fpS, okP, pack, nAl, allocA, shId, leaves, fillA, fillR, splice, Nat.reduceLT, Nat.reduceEqDiff, Nat.reduceLeDiff, Nat.reduceAdd, Nat.reduceSub, Nat.reduceMul, Int.reduceBEq, Int.reduceBNe, Int.reduceLT, Int.reduceLE, Int.reduceEq, reduceIte, reduceCtorEq]
        rw [hc, if_neg g1, if_neg g2]
        exact ⟨_, rfl⟩
  · refine ret1 rfl (by decide) ?_
    rw [h4]
    exact ⟨_, rfl⟩
  · rfl
  · rfl
  · rfl
end Go.VI

set_option linter.unusedVariables false
set_option linter.unusedSimpArgs false
set_option maxRecDepth 100000
namespace Go.VI
attribute [local congr] AW_congr OW_congr DW_congr NW_congr VW_congr GW_congr PW_congr KW_congr ite_congr' GV_congr CV_congr
structure okB (l : Bytes) : Prop where
  n : l.length < MX
  r : byteR l = true
structure okIt (x : ItemM) : Prop where
  k : okB x.key
  v : okB x.value
structure okI (l : List ItemM) : Prop where
  n : l.length < MX
  h : ∀ x ∈ l, okIt x
structure okK (l : List KidM) : Prop where
  n : l.length < MX
  h : ∀ x ∈ l, okB x.key
structure okN (n : NodeM) : Prop where
  i : okI n.items
  k : okK n.kids
structure okL (l : List NamedM) : Prop where
  n : l.length < MX
  h : ∀ x ∈ l, okN x.n
theorem okI.at_ {l : List ItemM} (h : okI l) {i : Nat} (hi : i < l.length) : okIt l[i] := h.h _ (List.getElem_mem hi)
theorem okK.at_ {l : List KidM} (h : okK l) {i : Nat} (hi : i < l.length) : okB l[i].key := h.h _ (List.getElem_mem hi)
theorem okL.at_ {l : List NamedM} (h : okL l) {i : Nat} (hi : i < l.length) : okN l[i].n := h.h _ (List.getElem_mem hi)
theorem k89 {a b : Bytes} (ha : okB a) (hb : okB b) {K : Heap} {L : List Blk} {Q : AV → Heap → Prop} : KW ft (.fn (.func 89) [] []) [encB a, encB b] (hx K L) Q ↔ Q (int (cmpB a b)) (hx K L) := KW_of (s89 a b ha.n hb.n _)
def sameI (x y : ItemM) : Bool := cmpB x.key y.key == 0 && cmpB x.value y.value == 0 && x.size == y.size && x.ref == y.ref
def manyN (n : NodeM) : Int := if n.leaf then n.items.length else n.kids.length
theorem s34 (n : NodeM) (H : Heap) : callL ft (.fn (.func 34) [] []) [.agg (nodeC n)] H = some (int (manyN n), H) := by
  refine call_p (as' := [.agg (nodeC n)]) rfl rfl (by simp) ?_
  unfold c34 r34
  cases e : n.leaf with
  | true =>
    simp only [↓vp, vq0, vq1, vq2, vq3, vr0, vr1, vr2, vr3, vr4, vr5, vr6, vr7, vr8, vr9, vr10, vr11, vr12, vr13, vr14, vr15, vr16, vr17, vr18, vr19, vr20, vr21, vr22, vr23, vr24, vr25, vr26, vr27, vr28, vr29, vr30, vr31, vr32, vr33, vr34, opS, fpS, okP, pack, nAl, allocA, shId, leaves, fillA, fillR, splice, Nat.reduceLT, Nat.reduceEqDiff, Nat.reduceLeDiff, Nat.reduceAdd, Nat.reduceSub, Nat.reduceMul, Int.reduceBEq, Int.reduceBNe, Int.reduceLT, Int.reduceLE, Int.reduceEq, reduceIte, reduceCtorEq, nodeC, boolA, one_I, one_K, e, lenI, lenK]
    refine ret1 rfl (by decide) ?_
    simp only [↓vp, vq0, vq1, vq2, vq3, vr0, vr1, vr2, vr3, vr4, vr5, vr6, vr7, vr8, vr9, vr10, vr11, vr12, vr13, vr14, vr15, vr16, vr17, vr18, vr19, vr20, vr21, vr22, vr23, vr24, vr25, vr26, vr27, vr28, vr29, vr30, vr31, vr32, vr33, vr34, opS, fpS, okP, pack, nAl, allocA, shId, leaves, fillA, fillR, splice, Nat.reduceLT, Nat.reduceEqDiff, Nat.reduceLeDiff, Nat.reduceAdd, Nat.reduceSub, Nat.reduceMul, Int.reduceBEq, Int.reduceBNe, Int.reduceLT, Int.reduceLE, Int.reduceEq, reduceIte, reduceCtorEq, manyN, e]
    exact ⟨_, rfl⟩
  | false =>
    simp only [↓vp, vq0, vq1, vq2, vq3, vr0, vr1, vr2, vr3, vr4, vr5, vr6, vr7, vr8, vr9, vr10, vr11, vr12, vr13, vr14, vr15, vr16, vr17, vr18, vr19, vr20, vr21, vr22, vr23, vr24, vr25, vr26, vr27, vr28, vr29, vr30, vr31, vr32, vr33, vr34, opS, fpS, okP, pack, nAl, allocA, shId, leaves, fillA, fillR, splice, Nat.reduceLT, Nat.reduceEqDiff, Nat.reduceLeDiff, Nat.reduceAdd, Nat.reduceSub, Nat.reduceMul, Int.reduceBEq, Int.reduceBNe, Int.reduceLT, Int.reduceLE, Int.reduceEq, reduceIte, reduceCtorEq, nodeC, boolA, one_I, one_K, e, lenI, lenK]
    refine ret1 rfl (by decide) ?_
    simp only [↓vp, vq0, vq1, vq2, vq3, vr0, vr1, vr2, vr3, vr4, vr5, vr6, vr7, vr8, vr9, vr10, vr11, vr12, vr13, vr14, vr15, vr16, vr17, vr18, vr19, vr20, vr21, vr22, vr23, vr24, vr25, vr26, vr27, vr28, vr29, vr30, vr31, vr32, vr33, vr34, opS, fpS, okP, pack, nAl, allocA, shId, leaves, fillA, fillR, splice, Nat.reduceLT, Nat.reduceEqDiff, Nat.reduceLeDiff, Nat.reduceAdd, Nat.reduceSub, Nat.reduceMul, Int.reduceBEq, Int.reduceBNe, Int.reduceLT, Int.reduceLE, Int.reduceEq, reduceIte, reduceCtorEq, manyN, e]
    exact ⟨_, rfl⟩
end Go.VI

set_option linter.unusedVariables false
set_option linter.unusedSimpArgs false
set_option maxRecDepth 100000
namespace Go.VI
attribute [local congr] AW_congr OW_congr DW_congr NW_congr VW_congr GW_congr PW_congr KW_congr ite_congr' GV_congr CV_congr
def sameIs : List ItemM → List ItemM → Bool
  | x :: a, y :: b => sameI x y && sameIs a b
  | _, _ => true
def sameK (x y : KidM) : Bool := x.ref == y.ref && cmpB x.key y.key == 0
def sameKs : List KidM → List KidM → Bool
  | x :: a, y :: b => sameK x y && sameKs a b
  | _, _ => true
def sameN (a b : NodeM) : Bool := a.leaf == b.leaf && a.items.length == b.items.length && a.kids.length == b.kids.length && sameIs a.items b.items && sameKs a.kids b.kids
end Go.VI
