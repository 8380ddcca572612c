/- VI, part U: regions in the text's order, code, calls. -/
import Derived.Test.YtkjeigdiojdfnaaVT
set_option linter.unusedVariables false
set_option linter.unusedSimpArgs false
namespace Go.VI

structure VRs (m : Mp) (F : Fz) (as : List AV) (vs : Array Value) : Prop where
  len : vs.size = as.length
  val : ∀ (i : Nat) (c : AV), as[i]? = some c → VR m F c (vs.getD i undef)

/-- The heap has grown from n on. -/
structure Grew (n : Nat) (m m' : Mp) (H' : Heap) : Prop where
  dom : ∀ id mb, m' id = some mb → m id = some mb ∨ n ≤ id
  le : n ≤ H'.next
theorem Grew.refl (m : Mp) (H : Heap) : Grew H.next m m H := ⟨fun _ _ h => .inl h, Nat.le_refl _⟩
theorem Grew.trans {n : Nat} {m m' m'' : Mp} {H H' : Heap} (h : Grew n m m' H) (h' : Grew H.next m' m'' H') : Grew n m m'' H' :=
  ⟨fun id mb x => by
    rcases h'.dom id mb x with x | x
    · exact h.dom id mb x
    · exact .inr (Nat.le_trans h.le x), Nat.le_trans h.le h'.le⟩
/-- What a call comes to. -/
def CallPost (m : Mp) (F : Fz) (H : Heap) (w : World) (r : AV) (H' : Heap) (en : Ending) (w' : World) : Prop :=
  ∃ u m' F', en = .returned u ∧ VR m' F' r u ∧ Inv m' F' H' w' ∧ Ext m F w m' F' w' ∧ Grew H.next m m' H'
def PrimOk (P : Program) (k : FuncId) (p : List AV → Heap → Option (AV × Heap)) : Prop :=
  ∀ (args : List AV) (H H' : Heap) (r : AV), p args H = some (r, H') → ∀ (m : Mp) (F : Fz) (w : World) (vs : Array Value), Inv m F H w → VRs m F args vs →
    ((callFunc k vs).run P w = .ok (.enter k vs) w ∧ Calls P k vs w (CallPost m F H w r H')) ∨
    (∃ u w', (callFunc k vs).run P w = .ok (.value u) w' ∧ CallPost m F H w r H' (.returned u) w')
def PPrimOk (P : Program) (k : FuncId) (p : List AV → Option AV) : Prop :=
  ∀ (args : List AV) (r : AV), p args = some r → ∀ (m : Mp) (F : Fz) (H : Heap) (w : World) (vs : Array Value), Inv m F H w → vs.size = args.length → (∀ (i : Nat) (c : AV), args[i]? = some c → VF F c (vs.getD i undef)) →
    ((callFunc k vs).run P w = .ok (.enter k vs) w ∧ Calls P k vs w (CallPost m F H w r H)) ∨
    (∃ u w', (callFunc k vs).run P w = .ok (.value u) w' ∧ CallPost m F H w r H (.returned u) w')
def FTOk (P : Program) (ft : FT) : Prop := ∀ (k : FuncId) (d : FDef), ft k = some d → match d with
  | .go _ n rs body => ∃ fn c, P.funcs[k]? = some fn ∧ (fn.name == "runtime.NumGoroutine") = false ∧ fn.body = some c ∧ compC P c = some body ∧ fn.ntmps = n ∧ fn.results.toList.mapM (compRes P) = some rs
  | .prim p => PrimOk P k p
  | .pprim p => PPrimOk P k p

def exR : AExit → Exit → Prop
  | .normal, X => X = .normal
  | .exit id, X => X = .exit id
  | .ret, X => X = .ret
def CodePost (m : Mp) (F : Fz) (H : Heap) (w : World) (x : AExit) (e' : Env) (H' : Heap) (X : Exit) (a' : Act) (w' : World) : Prop :=
  exR x X ∧ ∃ m' F', Sit m' F' H' w' e' a' ∧ Ext m F w m' F' w' ∧ a'.defers = [] ∧ Grew H.next m m' H'

section
variable {P : Program}

/-- A loop, from its body on. -/
def RW (P : Program) (c : Code) (Q : Exit → Act → World → Prop) (a : Act) (w : World) : Prop :=
  ∀ (b : Frame) (k : List Item) (cs : List Frame), ∃ e a' w', Q e a' w' ∧ Arrives P (lone (b.at a (.code c :: .inLoop c :: k)) cs w) b k cs e a' w'
theorem wp_of_RW {c : Code} {Q : Exit → Act → World → Prop} {a : Act} {w : World} (h : RW P c Q a w) : (Code.loop c).wp P Q a w := fun b k cs => by
  obtain ⟨e, a', w', hq, harr⟩ := h b k cs
  exact ⟨e, a', w', hq, .of_steps (.one step_loop) harr⟩
theorem RW_step {c : Code} {Q : Exit → Act → World → Prop} {a : Act} {w : World} (h : c.wp P (Exit.then (RW P c Q) Q) a w) : RW P c Q a w := fun b k cs => by
  obtain ⟨e, a₁, w₁, hq, harr⟩ := h b (.inLoop c :: k) cs
  cases e with
  | normal =>
    obtain ⟨e₂, a₂, w₂, hq₂, harr₂⟩ := hq b k cs
    exact ⟨e₂, a₂, w₂, hq₂, .of_steps (Steps.trans harr (.one step_inLoop)) harr₂⟩
  | exit id => exact ⟨_, a₁, w₁, hq, .pass (x := .inLoop c) rfl (fun _ _ => .inl (by simp)) harr⟩
  | goto l => exact ⟨_, a₁, w₁, hq, .pass (x := .inLoop c) rfl (fun _ _ => .inl (by simp)) harr⟩
  | ret => exact ⟨_, a₁, w₁, hq, .pass (x := .inLoop c) rfl (fun _ _ => .inl (by simp)) harr⟩
  | panic ch => exact ⟨_, a₁, w₁, hq, .pass (x := .inLoop c) rfl (fun _ _ => .inl (by simp)) harr⟩
  | outgrown => exact ⟨_, a₁, w₁, hq, .pass (x := .inLoop c) rfl (fun _ _ => .inl (by simp)) harr⟩

/-! ### calls of function values -/
def CfOk (P : Program) (cf : CF) : Prop := ∀ (f : AV) (args : List AV) (H H' : Heap) (r : AV), cf f args H = some (r, H') → ∀ (m : Mp) (F : Fz) (w : World) (fv : Value) (vs : Array Value), Inv m F H w → VR m F f fv → VRs m F args vs →
    ∃ k first caps, fv = .func (.func k) first caps ∧
      (((callFunc k (first ++ vs ++ caps)).run P w = .ok (.enter k (first ++ vs ++ caps)) w ∧ Calls P k (first ++ vs ++ caps) w (CallPost m F H w r H')) ∨
       (∃ u w', (callFunc k (first ++ vs ++ caps)).run P w = .ok (.value u) w' ∧ CallPost m F H w r H' (.returned u) w'))

theorem vr_tup0 {m : Mp} {F : Fz} {v : Value} (h : VR m F (.tup []) v) : ∃ us, v = .tuple us ∧ us.size = 0 := by
  cases h with
  | fz h =>
    cases h with
    | tup hl _ => exact ⟨_, rfl, hl⟩
  | tup hl _ => exact ⟨_, rfl, hl⟩
theorem wanted_eq {m : Mp} {F : Fz} {e : Env} {a : Act} (hE : EnvR m F e a.tmps) {ops : Array Oper} {o : Oper} (hk : knownA e (o.guard.map fun (j, b) => ((ops[j]?).bind (·.dst), b)) = true) :
    Region.wanted o (yielded ops a.tmps) = wantA e (o.guard.map fun (j, b) => ((ops[j]?).bind (·.dst), b)) := by
  unfold Region.wanted
  cases hg : o.guard with
  | none => rfl
  | some g =>
    obtain ⟨j, b⟩ := g
    rw [hg] at hk
    simp only [Option.map_some] at hk ⊢
    cases hd : (ops[j]?).bind (·.dst) with
    | none => simp [wantA, yielded, hd]
    | some t =>
      rw [hd] at hk
      simp only [knownA] at hk
      simp only [wantA, yielded, hd, Option.bind_some]
      split at hk
      · rename_i c hc
        have hv := hE.val t
        rw [hc] at hv
        obtain ⟨he, _⟩ := vr_sc hv
        have ht : a.tmps[t]? = some (.bool c) := by
          simp only [Array.getD_eq_getD_getElem?] at he
          cases h : a.tmps[t]? with
          | none => rw [h] at he; cases he
          | some q => rw [h] at he; exact congrArg some he
        simp only [ht, hc]
        cases c <;> cases b <;> rfl
      · rename_i hc
        have hv := hE.val t
        rw [hc] at hv
        obtain ⟨us, hu, hs⟩ := vr_tup0 hv
        have ht : (a.tmps[t]?).getD undef = .tuple us := by
          simpa only [Array.getD_eq_getD_getElem?] using hu
        simp only [hc]
        cases h : a.tmps[t]? with
        | none => rfl
        | some q =>
          rw [h] at ht
          have : q = .tuple us := ht
          subst this
          rfl
      · cases hk

theorem put_defers (a : Act) (d : Option Nat) (v : Value) : (a.put d v).defers = a.defers := by cases d <;> rfl

theorem compOp_call {ty : TypeId} {op : Op} {f : Operand} {args : List Operand} (h : compOp P ty op = some (.call f args)) : ∃ c, op = .call c ∧ c.callee = .value f ∧ c.args.toList = args := by
  cases op with
  | call c =>
    refine ⟨c, rfl, ?_⟩
    simp only [compOp] at h
    split at h
    · rename_i g hg
      cases h
      exact ⟨hg, rfl⟩
    · cases h
    · exfalso
      split at h
      · split at h <;> cases h
      · simp only [Option.bind_eq_some_iff] at h
        obtain ⟨el, _, i, _, h⟩ := h
        split at h <;> cases h
      · simp only [Option.bind_eq_some_iff] at h
        obtain ⟨el, _, i, _, h⟩ := h
        split at h <;> cases h
      · split at h <;> cases h
      · split at h <;> cases h
      · cases h
  | binOp op t x y ty =>
    exfalso
    simp only [compOp] at h
    have key : (if isBoolT P t then some (AOp.eqb (isNeq op) x y) else if scalarT P t then some (.bin op t x y) else match nilable P t with
        | some kd => if isNilC kd y then some (.isnil (isNeq op) kd x) else if isNilC kd x then some (.isnil (isNeq op) kd y) else none
        | none => (flatS P t).map fun ks => .eqs (isNeq op) ks x y) ≠ some (.call f args) := by
      split
      · simp
      · split
        · simp
        · split
          · split
            · simp
            · split <;> simp
          · simp [Option.map_eq_some_iff]
    cases op <;> first
      | exact key h
      | cases h
  | makeMap t r =>
    cases r <;> simp [compOp, Option.map_eq_some_iff] at h
  | build t parts =>
    exfalso
    simp only [compOp, Option.bind_eq_some_iff] at h
    obtain ⟨i, _, h⟩ := h
    split at h
    · split at h
      · simp [Option.map_eq_some_iff] at h
      · cases h
    · simp [Option.map_eq_some_iff] at h
    · cases h
  | _ =>
    exfalso
    simp only [compOp] at h
    revert h
    repeat' split
    all_goals simp [Option.bind_eq_some_iff, Option.map_eq_some_iff]

theorem frz_next : ∀ (n : Nat), (∀ (H H' : Heap) (v v' : AV), frz n H v = some (v', H') → H'.next = H.next) ∧ (∀ (H H' : Heap) (cs cs' : List AV), frz.frzL n H cs = some (cs', H') → H'.next = H.next) := by
  intro n
  induction n with
  | zero => exact ⟨fun H H' v v' h => by simp [frz] at h, fun H H' cs cs' h => by simp [frz.frzL] at h⟩
  | succ n ih =>
    obtain ⟨ih1, ih2⟩ := ih
    refine ⟨fun H H' v v' h => ?_, fun H H' cs cs' h => ?_⟩
    · cases v with
      | bad => simp [frz] at h
      | sc v =>
        simp only [frz] at h
        split at h <;> (cases h; rfl)
      | lst rows => simp only [frz] at h; cases h; rfl
      | pim rows i off => simp only [frz] at h; cases h; rfl
      | agg cs =>
        simp only [frz, Option.map_eq_some_iff] at h
        obtain ⟨⟨a, b⟩, h, h'⟩ := h
        cases h'
        exact ih2 _ _ _ _ h
      | tup cs =>
        simp only [frz, Option.map_eq_some_iff] at h
        obtain ⟨⟨a, b⟩, h, h'⟩ := h
        cases h'
        exact ih2 _ _ _ _ h
      | fn f a b =>
        simp only [frz, Option.bind_eq_bind, Option.bind_eq_some_iff] at h
        obtain ⟨⟨x, H1⟩, hx, ⟨y, H2⟩, hy, h⟩ := h
        cases h
        exact (ih2 _ _ _ _ hy).trans (ih2 _ _ _ _ hx)
      | sl id off len =>
        simp only [frz] at h
        split at h
        · split at h
          · cases h
            split
            · rfl
            · simp
          · cases h
        · cases h
      | ptr id i off =>
        simp only [frz] at h
        split at h
        · cases h
          split
          · rfl
          · simp
        · split at h
          · cases h; rfl
          · cases h
        · split at h
          · simp only [Option.bind_eq_bind, Option.bind_eq_some_iff] at h
            obtain ⟨⟨x, H1⟩, hx, h⟩ := h
            split at h
            · cases h
              rw [Heap.next_set]
              exact ih2 _ _ _ _ hx
            · cases h
          · cases h
        · cases h
      | mp id => simp [frz] at h
    · cases cs with
      | nil => simp only [frz.frzL] at h; cases h; rfl
      | cons c cs =>
        simp only [frz.frzL, Option.bind_eq_bind, Option.bind_eq_some_iff] at h
        obtain ⟨⟨x, H1⟩, hx, ⟨y, H2⟩, hy, h⟩ := h
        cases h
        exact (ih2 _ _ _ _ hy).trans (ih1 _ _ _ _ hx)
theorem fillR_next {sz : Nat} : ∀ (ps : List (Nat × AV)) (rs rs' : List (List AV)) (H H' : Heap), fillR sz rs H ps = some (rs', H') → H'.next = H.next
  | [], rs, rs', H, H', h => by simp only [fillR] at h; cases h; rfl
  | (i, v) :: ps, rs, rs', H, H', h => by
    simp only [fillR] at h
    split at h
    · simp only [Option.bind_eq_some_iff] at h
      obtain ⟨⟨cs, H1⟩, h1, h⟩ := h
      exact (fillR_next ps _ _ _ _ h).trans ((frz_next FZ).2 _ _ _ _ h1)
    · cases h
theorem storeA_next {H H' : Heap} {p v : AV} {n : Nat} (h : storeA H p n v = some H') : H'.next = H.next := by
  unfold storeA at h
  split at h
  · split at h
    · split at h
      · split at h
        · cases h; simp
        · cases h
      · simp only [Option.bind_eq_some_iff] at h
        obtain ⟨⟨cs, H1⟩, h1, h⟩ := h
        split at h
        · split at h
          · split at h
            · cases h
              rw [Heap.next_set]
              exact (frz_next FZ).2 _ _ _ _ h1
            · cases h
          · cases h
        · cases h
      · cases h
    · cases h
  · cases h
theorem opS_next {nid : Nat} {e : Env} {H H' : Heap} {o : AOp} {v : AV} (h : opS nid e H o = some (v, H')) : H.next ≤ H'.next := by
  cases o with
  | bslice sz z len ps =>
    simp only [opS, Option.map_eq_some_iff] at h
    obtain ⟨⟨rs, H1⟩, h1, h⟩ := h
    cases h
    rw [← fillR_next _ _ _ _ _ h1]
    exact Heap.next_put_le _ _ _
  | store n a x =>
    simp only [opS, Option.map_eq_some_iff] at h
    obtain ⟨H1, h1, h⟩ := h
    cases h
    exact Nat.le_of_eq (storeA_next h1).symm
  | app sz b s x =>
    simp only [opS, Option.bind_eq_some_iff] at h
    obtain ⟨xs, _, h⟩ := h
    unfold appA at h
    split at h
    · split at h
      · cases h; exact Nat.le_refl _
      · split at h
        · cases h; exact Heap.next_put_le _ _ _
        · cases h
    · split at h
      · split at h
        · cases h
          refine Nat.le_trans ?_ (Heap.next_put_le _ _ _)
          simp
        · cases h
      · cases h
    · cases h
  | copy sz d s =>
    simp only [opS, Option.bind_eq_some_iff] at h
    obtain ⟨xs, _, h⟩ := h
    simp only [Option.map_eq_some_iff] at h
    obtain ⟨⟨n, H1⟩, h1, h⟩ := h
    cases h
    unfold copyA at h1
    split at h1
    · split at h1
      · split at h1
        · cases h1; simp
        · cases h1
      · cases h1
    · split at h1
      · cases h1; exact Nat.le_refl _
      · cases h1
  | mput kd mo k v =>
    simp only [opS] at h
    split at h
    · split at h
      · split at h
        · cases h; simp
        · cases h
      · cases h
    · cases h
  | _ =>
    simp only [opS] at h
    repeat' first
      | (cases h; first | exact Nat.le_refl _ | exact Heap.next_put_le _ _ _)
      | split at h
      | (simp only [Option.bind_eq_some_iff, Option.map_eq_some_iff, Prod.mk.injEq] at h
         obtain ⟨_, _, h⟩ := h)
      | (obtain ⟨_, h⟩ := h)
    all_goals first
      | (subst h; exact Nat.le_refl _)
      | skip

structure OpDom (nid : Nat) (o : AOp) (n : Nat) (m m' : Mp) (H' : Heap) : Prop where
  dom : ∀ id mb, m' id = some mb → m id = some mb ∨ alOf nid o = some id ∨ n ≤ id
  le : n ≤ H'.next
theorem OpDom.grew {o : AOp} {m m' : Mp} {H H' : Heap} (h : OpDom H.next o H.next m m' H') : Grew H.next m m' H' :=
  ⟨fun id mb x => by
    rcases h.dom id mb x with x | x | x
    · exact .inl x
    · unfold alOf at x
      split at x
      · cases x; exact .inr (Nat.le_refl _)
      · cases x
    · exact .inr x, h.le⟩
/-- One operation of a region. -/
theorem oper_sound {cf : CF} (hcf : CfOk P cf) {ops : Array Oper} {o : Oper} {ao : AOper} (hc : compOper P ops o = some ao) {m : Mp} {F : Fz} {H H' : Heap} {w : World} {e e' : Env} {a : Act} {nid : Nat} (hfr : allocA ao.op = true → Free m H nid) (hs : Sit m F H w e a) (hd : a.defers = [])
    (h : oper cf nid ao e H = some (e', H')) {next : Act → World → Prop} {Q : Exit → Act → World → Prop}
    (hn : ∀ a' w' m' F', Sit m' F' H' w' e' a' → Ext m F w m' F' w' → a'.defers = [] → OpDom nid ao.op H.next m m' H' → next a' w') :
    if Region.wanted o (yielded ops a.tmps) = true then o.wp P a w next Q else next (a.put o.dst undef) w := by
  simp only [compOper, Option.map_eq_some_iff] at hc
  obtain ⟨op, hop, rfl⟩ := hc
  unfold oper at h
  split at h
  rotate_left
  · cases h
  rename_i hk
  rw [wanted_eq hs.env hk]
  split at h
  · rename_i hw
    rw [if_pos hw]
    simp only [Option.map_eq_some_iff, Prod.mk.injEq] at h
    obtain ⟨⟨v, H1⟩, hv, rfl, rfl⟩ := h
    have fin : ∀ (u : Value) (m' : Mp) (F' : Fz) (w' : World), VR m' F' v u → Inv m' F' H1 w' → Ext m F w m' F' w' → OpDom nid op H.next m m' H1 → next (a.put o.dst u) w' := fun u m' F' w' h1 h2 h3 h4 =>
      hn _ w' m' F' ⟨h2, (hs.env.mono h3.mm h3.ff).put o.dst h1⟩ h3 (by rw [put_defers]; exact hd) h4
    by_cases hcall : ∃ f args, op = .call f args
    · obtain ⟨f, args, rfl⟩ := hcall
      simp only [opC] at hv
      -- the loaded operation is a call of a value
      have hco := compOp_call hop
      obtain ⟨c, ho, hcal, harg⟩ := hco
      obtain ⟨k, first, caps, hfv, hcase⟩ := hcf _ _ H H1 v hv m F w (a.eval f) (c.args.map a.eval) hs.inv (hs.ev f) ⟨by rw [← harg]; simp, fun i q hq => by
        rw [← harg, List.getElem?_map, Option.map_eq_some_iff] at hq
        obtain ⟨x, hx, rfl⟩ := hq
        rw [getD_of (v := a.eval x) (by simpa using ⟨x, by simpa using hx, rfl⟩)]
        exact hs.ev x⟩
      have hrun : (execOp a.eval o).run P w = (callFunc k (first ++ c.args.map a.eval ++ caps)).run P w := by
        simp [execOp, ho, resolve, hcal, hfv, Deferred.ofValue, invoke]
      have hgd : ∀ {m' : Mp}, Grew H.next m m' H1 → OpDom nid (.call f args) H.next m m' H1 := fun h5 => ⟨fun id mb x => (h5.dom id mb x).imp_right .inr, h5.le⟩
      unfold Oper.wp
      rw [hrun]
      rcases hcase with ⟨h1, h2⟩ | ⟨u, w', h1, u', m', F', hu, h2, h3, h4, h5⟩
      · rw [h1]
        refine h2.mono fun en w' hp => ?_
        obtain ⟨u, m', F', rfl, h2, h3, h4, h5⟩ := hp
        exact fin u m' F' w' h2 h3 h4 (hgd h5)
      · rw [h1]
        cases hu
        exact fin u m' F' w' h2 h3 h4 (hgd h5)
    · have hnc : ∀ f args, op ≠ .call f args := fun f args e => hcall ⟨f, args, e⟩
      have hv' : opS nid e H op = some (v, H1) := by
        unfold opC at hv
        split at hv
        · exact absurd rfl (hnc _ _)
        · exact hv
      obtain ⟨nx, u, m', F', w', hr, hnx, h1, h2, h3, h4⟩ := opS_sound hs hfr hop hnc hv'
      have h5 : OpDom nid op H.next m m' H1 := ⟨fun id mb x => (h4 id mb x).imp_right .inl, opS_next hv'⟩
      unfold Oper.wp
      rw [hr]
      rcases hnx with rfl | ⟨rfl, rfl⟩
      · exact fin u m' F' w' h1 h2 h3 h5
      · exact fin undef m' F' w' h1 h2 h3 h5
  · rename_i hw
    rw [if_neg hw]
    simp only [Option.some.injEq, Prod.mk.injEq] at h
    obtain ⟨rfl, rfl⟩ := h
    exact hn _ w m F ⟨hs.inv, hs.env.put o.dst (.tup rfl (by simp))⟩ (Ext.refl m F w) (by rw [put_defers]; exact hd) ⟨fun _ _ h => .inl h, Nat.le_refl _⟩
end
end Go.VI
