/- VI, part V: the interpreter is sound. -/
import Derived.Test.YtkjeigdiojdfnaaVUE
set_option linter.unusedVariables false
set_option linter.unusedSimpArgs false
namespace Go.VI

section
variable {P : Program}

theorem opers_sound {cf : CF} (hcf : CfOk P cf) {ops : Array Oper} {os : List AOper} (hc : ops.toList.mapM (compOper P ops) = some os) {Q : Exit → Act → World → Prop} : ∀ (n k : Nat) (m : Mp) (F : Fz) (H H' : Heap) (w : World) (e e' : Env) (a : Act),
    n + k = ops.size → Sit m F H w e a → a.defers = [] → opers cf (os.drop k) e H = some (e', H') → (∀ a' w' m' F', Sit m' F' H' w' e' a' → Ext m F w m' F' w' → a'.defers = [] → Grew H.next m m' H' → Q .normal a' w') →
    wpOps P ops Q (List.range' k n) a w := by
  obtain ⟨hl, hget⟩ := mapM_get hc
  intro n
  induction n with
  | zero =>
    intro k m F H H' w e e' a hnk hs hd h hq
    have : os.drop k = [] := by apply List.drop_eq_nil_of_le; rw [hl]; simp; omega
    rw [this] at h
    simp [opers] at h
    obtain ⟨rfl, rfl⟩ := h
    exact hq a w m F hs (Ext.refl m F w) hd (Grew.refl m H)
  | succ n ih =>
    intro k m F H H' w e e' a hnk hs hd h hq
    have hk : k < ops.size := by omega
    have hko : k < os.length := by rw [hl]; simpa using hk
    rw [List.drop_eq_getElem_cons hko] at h
    simp only [opers, Option.bind_eq_some_iff] at h
    obtain ⟨⟨e1, H1⟩, h1, h⟩ := h
    have hok : ops[k]? = some ops[k] := Array.getElem?_eq_getElem hk
    have hco := hget k ops[k] os[k] (by simp [hk]) (List.getElem?_eq_getElem hko)
    rw [List.range'_succ]
    simp only [wpOps, hok]
    have := oper_sound hcf hco (fun _ => hs.inv.free) hs hd h1 (next := wpOps P ops Q (List.range' (k + 1) n)) (Q := Q) (fun a' w' m' F' hs' hE hd' hG => ih (k + 1) m' F' H1 H' w' e1 e' a' (by omega) hs' hd' h (fun a'' w'' m'' F'' s'' E'' d'' G'' => hq a'' w'' m'' F'' s'' (hE.trans E'') d'' (hG.grew.trans G'')))
    split
    · rename_i hw
      rw [if_pos hw] at this
      exact .inl this
    · rename_i hw
      rw [if_neg hw] at this
      exact this

theorem region_sound {cf : CF} (hcf : CfOk P cf) {ops : Array Oper} {os : List AOper} (hc : ops.toList.mapM (compOper P ops) = some os) {m : Mp} {F : Fz} {H H' : Heap} {w : World} {e e' : Env} {a : Act} (hs : Sit m F H w e a) (hd : a.defers = [])
    (h : opers cf os e H = some (e', H')) (id : Nat) : (Code.region id ops false).wp P (CodePost m F H w .normal e' H') a w := by
  apply wp_region
  rw [List.range_eq_range']
  exact opers_sound hcf hc ops.size 0 m F H H' w e e' a (by omega) hs hd (by simpa using h) (fun a' w' m' F' hs' hE hd' hG => ⟨rfl, m', F', hs', hE, hd', hG⟩)

/-! ### results -/
theorem resOf_sound {m : Mp} {F : Fz} {H : Heap} {w : World} {e : Env} {tmps : Array Value} (hI : Inv m F H w) (hE : EnvR m F e tmps) {r : ResultVar} {ar : ARes} (hc : compRes P r = some ar) {v : AV} (h : resOf H e ar = some v) :
    ∃ u, (match r with | .tmp t => (pure (tmps.getD t undef) : Sem Value) | .cell a t => (do loadVar t (← asAddr (tmps.getD a undef)))).run P w = .ok u w ∧ VR m F v u := by
  cases r with
  | tmp t =>
    simp only [compRes, Option.some.injEq] at hc
    subst hc
    simp only [resOf, Option.some.injEq] at h
    subst h
    exact ⟨_, rfl, hE.val t⟩
  | cell s t =>
    simp only [compRes, Option.bind_eq_some_iff, Option.map_eq_some_iff] at hc
    obtain ⟨g, hg, i, hi, rfl⟩ := hc
    obtain ⟨ti, z, i1, i2, rfl, _⟩ := infoA_some hi
    simp only [resOf, Option.bind_eq_some_iff] at h
    obtain ⟨cs, hcs, hp⟩ := h
    obtain ⟨ad, u, he, hr, hv⟩ := loaded hI (hE.val s) hcs hg i1 rfl hp
    refine ⟨u, ?_, hv⟩
    simp [he, asAddr, hr]

theorem mapM_run {α : Type} {f : α → Sem Value} {g : α → Option AV} {m : Mp} {F : Fz} {w : World} : ∀ (l : List α) (vs : List AV), l.mapM g = some vs → (∀ x ∈ l, ∀ v, g x = some v → ∃ u, (f x).run P w = .ok u w ∧ VR m F v u) →
    ∃ us : List Value, (l.mapM f).run P w = .ok us w ∧ us.length = vs.length ∧ ∀ (i : Nat) (c : AV), vs[i]? = some c → VR m F c (us.getD i undef)
  | [], vs, h, _ => by simp at h; subst h; exact ⟨[], rfl, rfl, by simp⟩
  | x :: l, vs, h, hf => by
    simp only [List.mapM_cons, Option.bind_eq_bind, Option.bind_eq_some_iff] at h
    obtain ⟨v, hv, vs', hvs, h⟩ := h
    cases h
    obtain ⟨u, hu, hr⟩ := hf x List.mem_cons_self v hv
    obtain ⟨us, h1, h2, h3⟩ := mapM_run l vs' hvs (fun y hy => hf y (List.mem_cons_of_mem _ hy))
    refine ⟨u :: us, ?_, by simp [h2], fun i c hc => ?_⟩
    · rw [List.mapM_cons]
      simp only [Sem.run_bind, hu, h1, Result.andThen_ok, Sem.run_pure]
    · cases i with
      | zero => simp at hc; subst hc; exact hr
      | succ i => exact h3 i c (by simpa using hc)

theorem results_sound {m : Mp} {F : Fz} {H : Heap} {w : World} {e : Env} {tmps : Array Value} (hI : Inv m F H w) (hE : EnvR m F e tmps) {fn : Func} {rs : List ARes} (hc : fn.results.toList.mapM (compRes P) = some rs) {v : AV} (h : resultsA H e rs = some v) :
    ∃ u, (results fn tmps).run P w = .ok u w ∧ VR m F v u := by
  simp only [resultsA, Option.map_eq_some_iff] at h
  obtain ⟨vs, hvs, h⟩ := h
  obtain ⟨hl, hget⟩ := mapM_get hc
  have hvs' : fn.results.toList.mapM (fun r => (compRes P r).bind (resOf H e)) = some vs := by
    clear h
    generalize fn.results.toList = l at hc hl hget
    induction l generalizing rs vs with
    | nil => simp at hc; subst hc; simpa using hvs
    | cons r l ih =>
      simp only [List.mapM_cons, Option.bind_eq_bind, Option.bind_eq_some_iff] at hc
      obtain ⟨ar, har, rs', hrs', hc⟩ := hc
      cases hc
      simp only [List.mapM_cons, Option.bind_eq_bind, Option.bind_eq_some_iff] at hvs
      obtain ⟨v, hv, vs', hvs', hvs⟩ := hvs
      cases hvs
      obtain ⟨l1, l2⟩ := mapM_get hrs'
      have := ih vs' hvs' hrs' l1 l2
      simp only [List.mapM_cons, Option.bind_eq_bind, har, Option.bind_some, hv, this]
      rfl
  obtain ⟨us, h1, h2, h3⟩ := mapM_run (P := P) (m := m) (F := F) (w := w) (f := fun r => match r with | .tmp t => (pure (tmps.getD t undef) : Sem Value) | .cell a t => (do loadVar t (← asAddr (tmps.getD a undef)))) fn.results.toList vs hvs' (fun r _ v hv => by
    simp only [Option.bind_eq_some_iff] at hv
    obtain ⟨ar, har, hv⟩ := hv
    exact resOf_sound hI hE har hv)
  have hrun : (results fn tmps).run P w = .ok (if h : us.toArray.size = 1 then us.toArray[0] else .tuple us.toArray) w := by
    unfold results
    rw [Array.mapM_eq_mapM_toList]
    simp only [Sem.run_bind, Sem.run_map]
    erw [h1]
    rfl
  refine ⟨_, hrun, ?_⟩
  subst h
  match vs, us, h2, h3 with
  | [], [], _, _ => exact .tup rfl (by simp)
  | [v], [u], _, h3 => exact h3 0 v rfl
  | v :: v2 :: vs, u :: u2 :: us, h2, h3 =>
    rw [dif_neg (by simp)]
    exact .tup (by simpa using h2) (fun i c hc => by simpa [List.getD_eq_getElem?_getD, Array.getD_eq_getD_getElem?] using h3 i c hc)

/-! ### the interpreter -/
theorem calls_of {ft : FT} (hft : FTOk P ft) {ex : EX}
    (hex : ∀ (c : Code) (ac : ACode), compC P c = some ac → ∀ (e e' : Env) (H H' : Heap) (x : AExit), ex ac e H = some (x, e', H') → ∀ (m : Mp) (F : Fz) (w : World) (a : Act), Sit m F H w e a → a.defers = [] → c.wp P (CodePost m F H w x e' H') a w) :
    CfOk P (callV ft ex) := by
  intro f args H H' r h m F w fv vs hI hf hv
  unfold callV at h
  split at h
  rotate_left
  · cases h
  rename_i k first caps
  obtain ⟨vf, vc, rfl, s1, s2, v1, v2⟩ := vr_fn hf
  refine ⟨k, vf, vc, rfl, ?_⟩
  have hall : VRs m F (first ++ args ++ caps) (vf ++ vs ++ vc) := by
    refine ⟨by simp [s1, s2, hv.len], fun i c hc => ?_⟩
    rcases Nat.lt_or_ge i (first.length + args.length) with h1 | h1
    · rw [List.getElem?_append_left (by simpa using h1)] at hc
      have e1 : (vf ++ vs ++ vc).getD i undef = (vf ++ vs).getD i undef := by
        simp only [Array.getD_eq_getD_getElem?]
        rw [Array.getElem?_append_left (by simp [s1, hv.len]; exact h1)]
      rw [e1]
      rcases Nat.lt_or_ge i first.length with h2 | h2
      · rw [List.getElem?_append_left h2] at hc
        have e2 : (vf ++ vs).getD i undef = vf.getD i undef := by
          simp only [Array.getD_eq_getD_getElem?]
          rw [Array.getElem?_append_left (by omega)]
        rw [e2]
        exact v1 i c hc
      · rw [List.getElem?_append_right h2] at hc
        have e2 : (vf ++ vs).getD i undef = vs.getD (i - first.length) undef := by
          simp only [Array.getD_eq_getD_getElem?]
          rw [Array.getElem?_append_right (by omega), s1]
        rw [e2]
        exact hv.val _ c hc
    · rw [List.getElem?_append_right (by simpa using h1)] at hc
      have e1 : (vf ++ vs ++ vc).getD i undef = vc.getD (i - (first ++ args).length) undef := by
        simp only [Array.getD_eq_getD_getElem?]
        rw [Array.getElem?_append_right (by simp [s1, hv.len]; exact h1)]
        simp [s1, hv.len]
      rw [e1]
      exact v2 _ c hc
  generalize first ++ args ++ caps = as at h hall
  generalize vf ++ vs ++ vc = us at hall
  clear v1 v2 s1 s2 hf hv
  unfold callF at h
  cases hk : ft k with
  | none => rw [hk] at h; cases h
  | some d =>
    have hd := hft k d hk
    rw [hk] at h
    cases d with
    | prim p =>
      simp only [Option.bind_eq_some_iff] at h
      obtain ⟨⟨r1, H1⟩, h1, h⟩ := h
      split at h
      · cases h
        exact hd as H _ _ h1 m F w us hI hall
      · cases h
    | pprim p =>
      simp only [Option.bind_eq_some_iff, Option.map_eq_some_iff, Prod.mk.injEq] at h
      obtain ⟨⟨as1, H1⟩, hz, r1, hr1, rfl, rfl⟩ := h
      obtain ⟨F1, o1, hv1⟩ := (frz_sound FZ).2 H H1 F as as1 (fun i => us.getD i undef) hz hI hall.val
      obtain ⟨hl1, _⟩ := frzL_one hz
      have back : ∀ {en : Ending} {w' : World}, CallPost m F1 H1 w r1 H1 en w' → CallPost m F H w r1 H1 en w' := fun ⟨u, m', F', h1, h2, h3, h4, h5⟩ => ⟨u, m', F', h1, h2, h3, o1.ext.trans h4, by rw [← o1.nx]; exact h5⟩
      rcases hd as1 r1 hr1 m F1 H1 w us o1.inv (by rw [hl1]; exact hall.len) hv1 with ⟨g1, g2⟩ | ⟨u, w', g1, g2⟩
      · exact .inl ⟨g1, g2.mono fun en w' hp => back hp⟩
      · exact .inr ⟨u, w', g1, back g2⟩
    | go pur n rs body =>
      obtain ⟨fn, c, g1, g2, g3, g4, g5, g6⟩ := hd
      have hcf : (callFunc k us).run P w = .ok (.enter k us) w := by
        simp only [callFunc, Sem.run_bind, run_program, Result.andThen_ok, g1, g2, g3, Bool.false_eq_true, if_false, Option.isNone_some, Sem.run_pure]
      -- the frame's slots
      have henv : ∀ (m0 : Mp) (F0 : Fz) (as0 : List AV), as0.length = us.size → (∀ (i : Nat) (c : AV), as0[i]? = some c → VR m0 F0 c (us.getD i undef)) → EnvR m0 F0 (enterE n as0) (us ++ Array.replicate (fn.ntmps - us.size) undef) := by
        intro m0 F0 as0 hl hr
        subst g5
        refine ⟨by simp [enterE, hl], fun t => ?_⟩
        rcases Nat.lt_or_ge t as0.length with h1 | h1
        · have e1 : (enterE fn.ntmps as0).getD t .bad = as0[t] := by
            unfold enterE
            rw [List.getD_eq_getElem?_getD, List.getElem?_append_left h1, List.getElem?_eq_getElem h1]
            rfl
          have e2 : (us ++ Array.replicate (fn.ntmps - us.size) undef).getD t undef = us.getD t undef := by
            simp only [Array.getD_eq_getD_getElem?]
            rw [Array.getElem?_append_left (by omega)]
          rw [e1, e2]
          exact hr t _ (List.getElem?_eq_getElem h1)
        · have e1 : (enterE fn.ntmps as0).getD t .bad = .bad := by
            unfold enterE
            rw [List.getD_eq_getElem?_getD, List.getElem?_append_right h1, List.getElem?_replicate]
            split <;> rfl
          rw [e1]
          exact .bad _
      refine .inl ⟨hcf, calls_of_wp g1 g3 ?_⟩
      cases pur with
      | false =>
        simp only [Option.bind_eq_some_iff] at h
        obtain ⟨⟨x, e1, H1⟩, h1, h⟩ := h
        split at h
        rotate_left
        · cases h
        rename_i hx
        simp only [Option.map_eq_some_iff, Prod.mk.injEq] at h
        obtain ⟨r1, hr1, rfl, rfl⟩ := h
        refine wp_mono (hex c body g4 _ e1 H H1 x h1 m F w _ ⟨hI, henv m F as hall.len.symm hall.val⟩ rfl) fun X a' w' hp => ?_
        obtain ⟨hX, m', F', hs', hE, hd', hG⟩ := hp
        obtain ⟨u, hu, hr⟩ := results_sound hs'.inv hs'.env g6 hr1
        cases x with
        | exit id => simp [leaves] at hx
        | normal => cases hX; exact ⟨hd', u, hu, u, m', F', rfl, hr, hs'.inv, hE, hG⟩
        | ret => cases hX; exact ⟨hd', u, hu, u, m', F', rfl, hr, hs'.inv, hE, hG⟩
      | true =>
        simp only [Option.bind_eq_some_iff] at h
        obtain ⟨⟨as1, H1⟩, hz, ⟨x, e1, Hc⟩, h1, h⟩ := h
        split at h
        rotate_left
        · cases h
        rename_i hx
        simp only [Option.bind_eq_some_iff, Option.map_eq_some_iff, Prod.mk.injEq] at h
        obtain ⟨r1, hr1, ⟨r2, Hc2⟩, hz2, rfl, rfl⟩ := h
        obtain ⟨F1, o1, hv1⟩ := (frz_sound FZ).2 H H1 F as as1 (fun i => us.getD i undef) hz hI hall.val
        obtain ⟨hl1, _⟩ := frzL_one hz
        have hI0 : Inv (fun _ => none) F1 Heap.empty w := ⟨o1.inv.fz, fun _ _ h => (by cases h), fun _ _ _ h _ => (by cases h), fun _ _ _ _ h _ _ _ _ => (by cases h)⟩
        refine wp_mono (hex c body g4 _ e1 Heap.empty Hc x h1 (fun _ => none) F1 w _ ⟨hI0, henv (fun _ => none) F1 as1 (by rw [hl1]; exact hall.len.symm) (fun i c hc => .fz (hv1 i c hc))⟩ rfl) fun X a' w' hp => ?_
        obtain ⟨hX, m', F', hs', hE, hd', hG⟩ := hp
        obtain ⟨u, hu, hr⟩ := results_sound hs'.inv hs'.env g6 hr1
        obtain ⟨F2, o2, hvf⟩ := (frz_sound FZ).1 Hc Hc2 F' r1 r2 u hz2 hs'.inv hr
        have hold : ∀ b, b < w.heap.size → w'.heap[b]? = w.heap[b]? := fun b hb => hE.blk b hb (fun _ _ h => by cases h)
        have hmn : ∀ id mb, m' id = some mb → w.heap.size ≤ mb.cb := fun id mb h => by
          rcases hE.mn id mb h with h | h | ⟨_, _, h, _⟩
          · cases h
          · exact h
          · cases h
        have hF2 : ∀ b o v, F2 b o = some v → F1 b o = some v ∨ w.heap.size ≤ b := fun b o v hv => by
          rcases o2.fr.new b o v hv with h | ⟨id, mb, h, rfl⟩
          · rcases hE.fn b o v h with h | h | ⟨_, _, h, _⟩
            · exact .inl h
            · exact .inr h
            · cases h
          · exact .inr (hmn id mb h)
        have hF12 : FLe F1 F2 := hE.ff.trans o2.fr.le
        have hIm : Inv m F2 H1 w' := by
          refine o1.inv.next (MLe.refl m) hF12 o2.inv.fz (fun id mb h => ?_) (fun id mb B h hB => ?_) o1.inv.inj
          · have := o1.inv.lt id mb h
            have := hE.sz
            omega
          · have hlt := (o1.inv.lt id mb h).2
            refine .inl ⟨h, hB, hold _ hlt, fun o v hv => ?_⟩
            rcases hF2 _ o v hv with h | h
            · exact h
            · omega
        have hEm : Ext m F w m F2 w' := ⟨MLe.refl m, o1.fr.le.trans hF12, hE.sz, hE.tape, hE.os, hE.out, fun b hb _ => hold b hb, fun _ _ h => .inl h, fun b o v hv => by
          rcases hF2 b o v hv with h | h
          · rcases o1.fr.new b o v h with h | h
            · exact .inl h
            · exact .inr (.inr h)
          · exact .inr (.inl h)⟩
        cases x with
        | exit id => simp [leaves] at hx
        | normal => cases hX; exact ⟨hd', u, hu, u, m, F2, rfl, .fz hvf, hIm, hEm, ⟨fun _ _ h => .inl h, Nat.le_of_eq o1.nx.symm⟩⟩
        | ret => cases hX; exact ⟨hd', u, hu, u, m, F2, rfl, .fz hvf, hIm, hEm, ⟨fun _ _ h => .inl h, Nat.le_of_eq o1.nx.symm⟩⟩

theorem execs_next {ft : FT} : ∀ (n : Nat), (∀ (c : ACode) (e e' : Env) (H H' : Heap) (x : AExit), exec ft n c e H = some (x, e', H') → H.next ≤ H'.next) ∧ CfPure (callV ft (exec ft n)) (pureV ft) := by
  have calls : ∀ (ex : EX), (∀ (c : ACode) (e e' : Env) (H H' : Heap) (x : AExit), ex c e H = some (x, e', H') → H.next ≤ H'.next) → CfPure (callV ft ex) (pureV ft) := by
    intro ex hex
    refine ⟨fun f args H v H' hp h => ?_, fun f args H v H' h => ?_⟩
    · unfold pureV at hp
      unfold callV at h ⊢
      split at h
      rotate_left
      · cases h
      rename_i k first caps
      simp only [Bool.and_eq_true] at hp ⊢
      obtain ⟨hc, hp⟩ := hp
      obtain ⟨vs', hvs⟩ := closedL_spec hc
      unfold callF at h ⊢
      split at hp
      · rename_i p n rs body hk
        simp only [hk] at h ⊢
        subst hp
        simp only [hvs, Option.bind_some] at h ⊢
        simp only [Option.bind_eq_some_iff] at h
        obtain ⟨⟨x, e1, Hc⟩, h1, h⟩ := h
        split at h
        rotate_left
        · cases h
        rename_i hx
        simp only [Option.bind_eq_some_iff, Option.map_eq_some_iff, Prod.mk.injEq] at h
        obtain ⟨r1, hr1, ⟨r2, Hc2⟩, hz2, rfl, rfl⟩ := h
        refine ⟨rfl, fun H2 => ?_⟩
        simp only [h1, Option.bind_some, if_pos hx, hr1, hz2, Option.map_some]
      · rename_i p hk
        simp only [hk] at h ⊢
        simp only [hvs, Option.bind_some, Option.map_eq_some_iff, Prod.mk.injEq] at h ⊢
        obtain ⟨r, hr, rfl, rfl⟩ := h
        exact ⟨rfl, fun H2 => ⟨r, hr, rfl, trivial⟩⟩
      · cases hp
    · unfold callV at h
      split at h
      rotate_left
      · cases h
      unfold callF at h
      split at h
      · cases h
      · simp only [Option.bind_eq_some_iff] at h
        obtain ⟨⟨r1, H1⟩, h1, h⟩ := h
        split at h
        · cases h; assumption
        · cases h
      · simp only [Option.bind_eq_some_iff, Option.map_eq_some_iff, Prod.mk.injEq] at h
        obtain ⟨⟨as1, H1⟩, hz, r1, hr1, rfl, rfl⟩ := h
        exact Nat.le_of_eq ((frz_next FZ).2 _ _ _ _ hz).symm
      · simp only [Option.bind_eq_some_iff] at h
        obtain ⟨⟨as1, H1⟩, hz, ⟨x, e1, Hc⟩, h1, h⟩ := h
        split at h
        rotate_left
        · cases h
        simp only [Option.bind_eq_some_iff, Option.map_eq_some_iff, Prod.mk.injEq] at h
        obtain ⟨r1, hr1, ⟨r2, Hc2⟩, hz2, rfl, rfl⟩ := h
        exact Nat.le_of_eq ((frz_next FZ).2 _ _ _ _ hz).symm
      · simp only [Option.bind_eq_some_iff] at h
        obtain ⟨⟨x, e1, H1⟩, h1, h⟩ := h
        split at h
        rotate_left
        · cases h
        simp only [Option.map_eq_some_iff, Prod.mk.injEq] at h
        obtain ⟨r1, hr1, rfl, rfl⟩ := h
        exact hex _ _ _ _ _ _ h1
  have ops_ : ∀ {cf : CF} {pv : AV → List AV → Bool}, CfPure cf pv → ∀ (os : List AOper) (e e' : Env) (H H' : Heap), opers cf os e H = some (e', H') → H.next ≤ H'.next := by
    intro cf pv hcp os
    induction os with
    | nil => intro e e' H H' h; simp only [opers] at h; cases h; exact Nat.le_refl _
    | cons o os ih =>
      intro e e' H H' h
      simp only [opers, Option.bind_eq_some_iff] at h
      obtain ⟨⟨e1, H1⟩, h1, h⟩ := h
      rw [oper_eq, Option.map_eq_some_iff] at h1
      obtain ⟨⟨v, K⟩, h1, h2⟩ := h1
      cases h2
      exact Nat.le_trans (opv_next hcp h1) (ih _ _ _ _ h)
  have runs_ : ∀ {cf : CF} {pv : AV → List AV → Bool}, CfPure cf pv → ∀ (os : List AOper) (nid : Nat) (e e' : Env) (H H' : Heap) (fs : List FP), runs cf pv nid os e H = some (fs, e', H') → H.next ≤ H'.next := by
    intro cf pv hcp os
    induction os with
    | nil => intro nid e e' H H' fs h; simp only [runs] at h; cases h; exact Nat.le_refl _
    | cons o os ih =>
      intro nid e e' H H' fs h
      simp only [runs, Option.bind_eq_some_iff, Option.map_eq_some_iff, Prod.mk.injEq] at h
      obtain ⟨⟨e1, H1⟩, h1, ⟨gs, e2, H2⟩, h2, rfl, rfl, rfl⟩ := h
      rw [oper_eq, Option.map_eq_some_iff] at h1
      obtain ⟨⟨v, K⟩, h1, h3⟩ := h1
      cases h3
      exact Nat.le_trans (opv_next hcp h1) (ih _ _ _ _ _ _ h2)
  intro n
  induction n with
  | zero => exact ⟨fun c e e' H H' x h => by simp [exec] at h, calls _ (fun c e e' H H' x h => by simp [exec] at h)⟩
  | succ n ih =>
    obtain ⟨ih1, ih2⟩ := ih
    have main : ∀ (c : ACode) (e e' : Env) (H H' : Heap) (x : AExit), exec ft (n + 1) c e H = some (x, e', H') → H.next ≤ H'.next := by
      intro c e e' H H' x h
      cases c with
      | skip => simp only [exec] at h; cases h; exact Nat.le_refl _
      | exit id => simp only [exec] at h; cases h; exact Nat.le_refl _
      | ret => simp only [exec] at h; cases h; exact Nat.le_refl _
      | region os draw prs =>
        simp only [exec] at h
        split at h
        · simp only [Option.map_eq_some_iff, Prod.mk.injEq] at h
          obtain ⟨⟨e1, H1⟩, h1, rfl, rfl, rfl⟩ := h
          simp only [drawn, Option.bind_eq_some_iff] at h1
          obtain ⟨⟨fs, e2, H2⟩, hrun, h1⟩ := h1
          split at h1
          · cases h1
            have := runs_ ih2 _ _ _ _ _ _ _ hrun
            rw [Heap.next_pad] at this
            show H.next ≤ H2.next
            omega
          · cases h1
        · simp only [Option.map_eq_some_iff, Prod.mk.injEq] at h
          obtain ⟨⟨e1, H1⟩, h1, rfl, rfl, rfl⟩ := h
          exact ops_ ih2 _ _ _ _ _ h1
      | seq a b =>
        simp only [exec, Option.bind_eq_some_iff] at h
        obtain ⟨⟨y, e1, H1⟩, hy, h⟩ := h
        cases y with
        | normal => exact Nat.le_trans (ih1 _ _ _ _ _ _ hy) (ih1 _ _ _ _ _ _ h)
        | exit id => cases h; exact ih1 _ _ _ _ _ _ hy
        | ret => cases h; exact ih1 _ _ _ _ _ _ hy
      | cond c a b =>
        simp only [exec, Option.bind_eq_some_iff] at h
        obtain ⟨t, ht, h⟩ := h
        split at h
        · exact ih1 _ _ _ _ _ _ h
        · exact ih1 _ _ _ _ _ _ h
      | block id c =>
        simp only [exec, Option.map_eq_some_iff, Prod.mk.injEq] at h
        obtain ⟨⟨y, e1, H1⟩, hy, rfl, rfl, rfl⟩ := h
        exact ih1 _ _ _ _ _ _ hy
      | loop c =>
        simp only [exec, Option.bind_eq_some_iff] at h
        obtain ⟨⟨y, e1, H1⟩, hy, h⟩ := h
        cases y with
        | normal => exact Nat.le_trans (ih1 _ _ _ _ _ _ hy) (ih1 _ _ _ _ _ _ h)
        | exit id => cases h; exact ih1 _ _ _ _ _ _ hy
        | ret => cases h; exact ih1 _ _ _ _ _ _ hy
    exact ⟨main, calls _ main⟩

theorem exec_sound (hP : P.follows .mixedOrders = true) {ft : FT} (hft : FTOk P ft) : ∀ (n : Nat) (c : Code) (ac : ACode), compC P c = some ac → ∀ (e e' : Env) (H H' : Heap) (x : AExit), exec ft n ac e H = some (x, e', H') →
    ∀ (m : Mp) (F : Fz) (w : World) (a : Act), Sit m F H w e a → a.defers = [] → c.wp P (CodePost m F H w x e' H') a w ∧ ∀ c0, c = .loop c0 → RW P c0 (CodePost m F H w x e' H') a w := by
  intro n
  induction n with
  | zero => intro c ac _ e e' H H' x h; simp [exec] at h
  | succ n ih =>
    intro c ac hc e e' H H' x h m F w a hs hd
    have hcf : CfOk P (callV ft (exec ft n)) := calls_of hft (fun c ac hc e e' H H' x h m F w a hs hd => (ih c ac hc e e' H H' x h m F w a hs hd).1)
    have post : ∀ {m' : Mp} {F' : Fz} {H1 : Heap} {w' : World}, Ext m F w m' F' w' → Grew H.next m m' H1 → ∀ X a'' w'', CodePost m' F' H1 w' x e' H' X a'' w'' → CodePost m F H w x e' H' X a'' w'' := fun hE hG X a'' w'' ⟨h1, m2, F2, h2, h3, h4, h5⟩ => ⟨h1, m2, F2, h2, hE.trans h3, h4, hG.trans h5⟩
    cases c with
    | skip =>
      simp only [compC, Option.some.injEq] at hc; subst hc
      simp only [exec, Option.some.injEq, Prod.mk.injEq] at h
      obtain ⟨rfl, rfl, rfl⟩ := h
      exact ⟨wp_skip ⟨rfl, m, F, hs, Ext.refl m F w, hd, Grew.refl m H⟩, by simp⟩
    | exit id =>
      simp only [compC, Option.some.injEq] at hc; subst hc
      simp only [exec, Option.some.injEq, Prod.mk.injEq] at h
      obtain ⟨rfl, rfl, rfl⟩ := h
      exact ⟨wp_exit ⟨rfl, m, F, hs, Ext.refl m F w, hd, Grew.refl m H⟩, by simp⟩
    | ret =>
      simp only [compC, Option.some.injEq] at hc; subst hc
      simp only [exec, Option.some.injEq, Prod.mk.injEq] at h
      obtain ⟨rfl, rfl, rfl⟩ := h
      exact ⟨wp_ret ⟨rfl, m, F, hs, Ext.refl m F w, hd, Grew.refl m H⟩, by simp⟩
    | region id ops draw =>
      simp only [compC, Option.bind_eq_some_iff] at hc
      obtain ⟨os, hos, hc⟩ := hc
      refine ⟨?_, by simp⟩
      cases draw with
      | false =>
        simp only [Bool.false_eq_true, if_false, Option.some.injEq] at hc
        subst hc
        simp only [exec, Bool.false_eq_true, if_false, Option.map_eq_some_iff, Prod.mk.injEq] at h
        obtain ⟨⟨e1, H1⟩, h1, rfl, rfl, rfl⟩ := h
        exact region_sound hcf hos hs hd h1 id
      | true =>
        simp only [if_true, Option.map_eq_some_iff] at hc
        obtain ⟨prs, hprs, rfl⟩ := hc
        simp only [exec, if_true, Option.map_eq_some_iff, Prod.mk.injEq] at h
        obtain ⟨⟨e1, H1⟩, h1, rfl, rfl, rfl⟩ := h
        exact drawn_sound hP hcf (execs_next n).2 hos hprs hs hd h1 id (fun a' w' m' F' hs' hE hd' hG => ⟨rfl, m', F', hs', hE, hd', hG⟩)
    | seq c1 c2 =>
      simp only [compC, Option.bind_eq_some_iff, Option.map_eq_some_iff] at hc
      obtain ⟨a1, h1, a2, h2, rfl⟩ := hc
      refine ⟨?_, by simp⟩
      simp only [exec, Option.bind_eq_some_iff] at h
      obtain ⟨⟨y, e1, H1⟩, hy, h⟩ := h
      refine wp_seq (wp_mono (ih c1 a1 h1 e e1 H H1 y hy m F w a hs hd).1 fun X a' w' hp => ?_)
      obtain ⟨hX, m', F', hs', hE, hd', hG⟩ := hp
      cases y with
      | normal =>
        cases hX
        exact wp_mono (ih c2 a2 h2 e1 e' H1 H' x h m' F' w' a' hs' hd').1 (post hE hG)
      | exit id =>
        cases hX
        simp only [Option.some.injEq, Prod.mk.injEq] at h
        obtain ⟨rfl, rfl, rfl⟩ := h
        exact ⟨rfl, m', F', hs', hE, hd', hG⟩
      | ret =>
        cases hX
        simp only [Option.some.injEq, Prod.mk.injEq] at h
        obtain ⟨rfl, rfl, rfl⟩ := h
        exact ⟨rfl, m', F', hs', hE, hd', hG⟩
    | cond o c1 c2 =>
      simp only [compC, Option.bind_eq_some_iff, Option.map_eq_some_iff] at hc
      obtain ⟨a1, h1, a2, h2, rfl⟩ := hc
      refine ⟨?_, by simp⟩
      simp only [exec, Option.bind_eq_some_iff] at h
      obtain ⟨t, ht, h⟩ := h
      have hv := toB_some ht (hs.ev o)
      cases t with
      | true => exact wp_cond_true hv (ih c1 a1 h1 e e' H H' x h m F w a hs hd).1
      | false => exact wp_cond_false hv (ih c2 a2 h2 e e' H H' x h m F w a hs hd).1
    | block id c1 =>
      simp only [compC, Option.map_eq_some_iff] at hc
      obtain ⟨a1, h1, rfl⟩ := hc
      refine ⟨?_, by simp⟩
      simp only [exec, Option.map_eq_some_iff, Prod.mk.injEq] at h
      obtain ⟨⟨y, e1, H1⟩, hy, rfl, rfl, rfl⟩ := h
      refine wp_block (wp_mono (ih c1 a1 h1 e e1 H H1 y hy m F w a hs hd).1 fun X a' w' hp => ?_)
      obtain ⟨hX, m', F', hs', hE, hd', hG⟩ := hp
      cases y with
      | normal => cases hX; exact ⟨rfl, m', F', hs', hE, hd', hG⟩
      | ret => cases hX; exact ⟨rfl, m', F', hs', hE, hd', hG⟩
      | exit id' =>
        cases hX
        show if id' = id then _ else _
        by_cases hid : id' = id
        · subst hid
          rw [if_pos rfl]
          exact ⟨by rw [if_pos rfl]; rfl, m', F', hs', hE, hd', hG⟩
        · rw [if_neg hid]
          exact ⟨by rw [if_neg (by simpa using hid)]; rfl, m', F', hs', hE, hd', hG⟩
    | loop c1 =>
      simp only [compC, Option.map_eq_some_iff] at hc
      obtain ⟨a1, h1, rfl⟩ := hc
      simp only [exec, Option.bind_eq_some_iff] at h
      obtain ⟨⟨y, e1, H1⟩, hy, h⟩ := h
      have key : RW P c1 (CodePost m F H w x e' H') a w := by
        refine RW_step (wp_mono (ih c1 a1 h1 e e1 H H1 y hy m F w a hs hd).1 fun X a' w' hp => ?_)
        obtain ⟨hX, m', F', hs', hE, hd', hG⟩ := hp
        cases y with
        | normal =>
          cases hX
          intro b k cs
          obtain ⟨X, a'', w'', hq, harr⟩ := (ih (.loop c1) (.loop a1) (by simp [compC, h1]) e1 e' H1 H' x h m' F' w' a' hs' hd').2 c1 rfl b k cs
          exact ⟨X, a'', w'', post hE hG X a'' w'' hq, harr⟩
        | exit id =>
          cases hX
          simp only [Option.some.injEq, Prod.mk.injEq] at h
          obtain ⟨rfl, rfl, rfl⟩ := h
          exact ⟨rfl, m', F', hs', hE, hd', hG⟩
        | ret =>
          cases hX
          simp only [Option.some.injEq, Prod.mk.injEq] at h
          obtain ⟨rfl, rfl, rfl⟩ := h
          exact ⟨rfl, m', F', hs', hE, hd', hG⟩
      refine ⟨wp_of_RW key, fun c0 hc0 => ?_⟩
      cases hc0
      exact key
    | _ => simp [compC] at hc

/-- THE INTERPRETER IS SOUND: what it tells of a call is what the machine's call comes to. -/
theorem callF_sound (hP : P.follows .mixedOrders = true) {ft : FT} (hft : FTOk P ft) (n : Nat) {k : FuncId} {args : List AV} {H H' : Heap} {r : AV} (h : callF ft (exec ft n) k args H = some (r, H')) {m : Mp} {F : Fz} {w : World} {vs : Array Value} (hI : Inv m F H w) (hv : VRs m F args vs)
    (hgo : ∃ p n rs body, ft k = some (.go p n rs body)) : Calls P k vs w (CallPost m F H w r H') := by
  have hcf : CfOk P (callV ft (exec ft n)) := calls_of hft (fun c ac hc e e' H H' x h m F w a hs hd => (exec_sound hP hft n c ac hc e e' H H' x h m F w a hs hd).1)
  have hh : callV ft (exec ft n) (.fn (.func k) [] []) args H = some (r, H') := by simpa [callV] using h
  obtain ⟨k', f', c', he, hcase⟩ := hcf _ _ H H' r hh m F w (.func (.func k) #[] #[]) vs hI (.fz (.fn rfl rfl (by simp) (by simp))) hv
  cases he
  simp only [Array.empty_append, Array.append_empty] at hcase
  rcases hcase with ⟨_, h2⟩ | ⟨u, w', h1, _⟩
  · exact h2
  · obtain ⟨p, n, rs, body, hk⟩ := hgo
    obtain ⟨fn, c, g1, g2, g3, _⟩ := hft k _ hk
    simp only [callFunc, Sem.run_bind, run_program, Result.andThen_ok, g1, g2, g3, Bool.false_eq_true, if_false, Option.isNone_some, Sem.run_pure] at h1
    cases h1
end
end Go.VI
