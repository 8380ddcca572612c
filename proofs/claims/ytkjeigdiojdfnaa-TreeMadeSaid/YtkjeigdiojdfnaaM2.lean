import Derived.Test.YtkjeigdiojdfnaaM1
import Derived.Orders
import Derived.Lib.BytesEntry
/- VI, part U: regions in the text's order, code, calls. -/
set_option linter.unusedVariables false
set_option linter.unusedSimpArgs false
namespace Go.VI

structure VRs (m : Mp) (F : Fz) (as : List AV) (vs : Array Value) : Prop where
  len : vs.size = as.length
  val : ∀ (i : Nat) (c : AV), as[i]? = some c → VR m F c (vs.getD i undef)

/-- The heap has grown from n on. -/
structure Grew (n : Nat) (m m' : Mp) (H' : Heap) : Prop where
  dom : ∀ id mb, m' id = some mb → m id = some mb ∨ n ≤ id
  le : n ≤ H'.next
theorem Grew.refl (m : Mp) (H : Heap) : Grew H.next m m H := ⟨fun _ _ h => .inl h, Nat.le_refl _⟩
theorem Grew.trans {n : Nat} {m m' m'' : Mp} {H H' : Heap} (h : Grew n m m' H) (h' : Grew H.next m' m'' H') : Grew n m m'' H' :=
  ⟨fun id mb x => by
    rcases h'.dom id mb x with x | x
    · exact h.dom id mb x
    · exact .inr (Nat.le_trans h.le x), Nat.le_trans h.le h'.le⟩
/-- What a call comes to. -/
def CallPost (m : Mp) (F : Fz) (H : Heap) (w : World) (r : AV) (H' : Heap) (en : Ending) (w' : World) : Prop :=
  ∃ u m' F', en = .returned u ∧ VR m' F' r u ∧ Inv m' F' H' w' ∧ Ext m F w m' F' w' ∧ Grew H.next m m' H'
def PrimOk (P : Program) (k : FuncId) (p : List AV → Heap → Option (AV × Heap)) : Prop :=
  ∀ (args : List AV) (H H' : Heap) (r : AV), p args H = some (r, H') → ∀ (m : Mp) (F : Fz) (w : World) (vs : Array Value), Inv m F H w → VRs m F args vs →
    ((callFunc k vs).run P w = .ok (.enter k vs) w ∧ Calls P k vs w (CallPost m F H w r H')) ∨
    (∃ u w', (callFunc k vs).run P w = .ok (.value u) w' ∧ CallPost m F H w r H' (.returned u) w')
def PPrimOk (P : Program) (k : FuncId) (p : List AV → Option AV) : Prop :=
  ∀ (args : List AV) (r : AV), p args = some r → ∀ (m : Mp) (F : Fz) (H : Heap) (w : World) (vs : Array Value), Inv m F H w → vs.size = args.length → (∀ (i : Nat) (c : AV), args[i]? = some c → VF F c (vs.getD i undef)) →
    ((callFunc k vs).run P w = .ok (.enter k vs) w ∧ Calls P k vs w (CallPost m F H w r H)) ∨
    (∃ u w', (callFunc k vs).run P w = .ok (.value u) w' ∧ CallPost m F H w r H (.returned u) w')
def FTOk (P : Program) (ft : FT) : Prop := ∀ (k : FuncId) (d : FDef), ft k = some d → match d with
  | .go _ n rs body => ∃ fn c, P.funcs[k]? = some fn ∧ (fn.name == "runtime.NumGoroutine") = false ∧ fn.body = some c ∧ compC P c = some body ∧ fn.ntmps = n ∧ fn.results.toList.mapM (compRes P) = some rs
  | .prim p => PrimOk P k p
  | .pprim p => PPrimOk P k p

def exR : AExit → Exit → Prop
  | .normal, X => X = .normal
  | .exit id, X => X = .exit id
  | .ret, X => X = .ret
def CodePost (m : Mp) (F : Fz) (H : Heap) (w : World) (x : AExit) (e' : Env) (H' : Heap) (X : Exit) (a' : Act) (w' : World) : Prop :=
  exR x X ∧ ∃ m' F', Sit m' F' H' w' e' a' ∧ Ext m F w m' F' w' ∧ a'.defers = [] ∧ Grew H.next m m' H'

section
variable {P : Program}

/-- A loop, from its body on. -/
def RW (P : Program) (c : Code) (Q : Exit → Act → World → Prop) (a : Act) (w : World) : Prop :=
  ∀ (b : Frame) (k : List Item) (cs : List Frame), ∃ e a' w', Q e a' w' ∧ Arrives P (lone (b.at a (.code c :: .inLoop c :: k)) cs w) b k cs e a' w'
theorem wp_of_RW {c : Code} {Q : Exit → Act → World → Prop} {a : Act} {w : World} (h : RW P c Q a w) : (Code.loop c).wp P Q a w := fun b k cs => by
  obtain ⟨e, a', w', hq, harr⟩ := h b k cs
  exact ⟨e, a', w', hq, .of_steps (.one step_loop) harr⟩
theorem RW_step {c : Code} {Q : Exit → Act → World → Prop} {a : Act} {w : World} (h : c.wp P (Exit.then (RW P c Q) Q) a w) : RW P c Q a w := fun b k cs => by
  obtain ⟨e, a₁, w₁, hq, harr⟩ := h b (.inLoop c :: k) cs
  cases e with
  | normal =>
    obtain ⟨e₂, a₂, w₂, hq₂, harr₂⟩ := hq b k cs
    exact ⟨e₂, a₂, w₂, hq₂, .of_steps (Steps.trans harr (.one step_inLoop)) harr₂⟩
  | exit id => exact ⟨_, a₁, w₁, hq, .pass (x := .inLoop c) rfl (fun _ _ => .inl (by simp)) harr⟩
  | goto l => exact ⟨_, a₁, w₁, hq, .pass (x := .inLoop c) rfl (fun _ _ => .inl (by simp)) harr⟩
  | ret => exact ⟨_, a₁, w₁, hq, .pass (x := .inLoop c) rfl (fun _ _ => .inl (by simp)) harr⟩
  | panic ch => exact ⟨_, a₁, w₁, hq, .pass (x := .inLoop c) rfl (fun _ _ => .inl (by simp)) harr⟩
  | outgrown => exact ⟨_, a₁, w₁, hq, .pass (x := .inLoop c) rfl (fun _ _ => .inl (by simp)) harr⟩

/-! ### calls of function values -/
def CfOk (P : Program) (cf : CF) : Prop := ∀ (f : AV) (args : List AV) (H H' : Heap) (r : AV), cf f args H = some (r, H') → ∀ (m : Mp) (F : Fz) (w : World) (fv : Value) (vs : Array Value), Inv m F H w → VR m F f fv → VRs m F args vs →
    ∃ k first caps, fv = .func (.func k) first caps ∧
      (((callFunc k (first ++ vs ++ caps)).run P w = .ok (.enter k (first ++ vs ++ caps)) w ∧ Calls P k (first ++ vs ++ caps) w (CallPost m F H w r H')) ∨
       (∃ u w', (callFunc k (first ++ vs ++ caps)).run P w = .ok (.value u) w' ∧ CallPost m F H w r H' (.returned u) w'))

theorem vr_tup0 {m : Mp} {F : Fz} {v : Value} (h : VR m F (.tup []) v) : ∃ us, v = .tuple us ∧ us.size = 0 := by
  cases h with
  | fz h =>
    cases h with
    | tup hl _ => exact ⟨_, rfl, hl⟩
  | tup hl _ => exact ⟨_, rfl, hl⟩
theorem wanted_eq {m : Mp} {F : Fz} {e : Env} {a : Act} (hE : EnvR m F e a.tmps) {ops : Array Oper} {o : Oper} (hk : knownA e (o.guard.map fun (j, b) => ((ops[j]?).bind (·.dst), b)) = true) :
    Region.wanted o (yielded ops a.tmps) = wantA e (o.guard.map fun (j, b) => ((ops[j]?).bind (·.dst), b)) := by
  unfold Region.wanted
  cases hg : o.guard with
  | none => rfl
  | some g =>
    obtain ⟨j, b⟩ := g
    rw [hg] at hk
    simp only [Option.map_some] at hk ⊢
    cases hd : (ops[j]?).bind (·.dst) with
    | none => simp [wantA, yielded, hd]
    | some t =>
      rw [hd] at hk
      simp only [knownA] at hk
      simp only [wantA, yielded, hd, Option.bind_some]
      split at hk
      · rename_i c hc
        have hv := hE.val t
        rw [hc] at hv
        obtain ⟨he, _⟩ := vr_sc hv
        have ht : a.tmps[t]? = some (.bool c) := by
          simp only [Array.getD_eq_getD_getElem?] at he
          cases h : a.tmps[t]? with
          | none => rw [h] at he; cases he
          | some q => rw [h] at he; exact congrArg some he
        simp only [ht, hc]
        cases c <;> cases b <;> rfl
      · rename_i hc
        have hv := hE.val t
        rw [hc] at hv
        obtain ⟨us, hu, hs⟩ := vr_tup0 hv
        have ht : (a.tmps[t]?).getD undef = .tuple us := by
          simpa only [Array.getD_eq_getD_getElem?] using hu
        simp only [hc]
        cases h : a.tmps[t]? with
        | none => rfl
        | some q =>
          rw [h] at ht
          have : q = .tuple us := ht
          subst this
          rfl
      · cases hk

theorem put_defers (a : Act) (d : Option Nat) (v : Value) : (a.put d v).defers = a.defers := by cases d <;> rfl

theorem compOp_call {ty : TypeId} {op : Op} {f : Operand} {args : List Operand} (h : compOp P ty op = some (.call f args)) : ∃ c, op = .call c ∧ c.callee = .value f ∧ c.args.toList = args := by
  cases op with
  | call c =>
    refine ⟨c, rfl, ?_⟩
    simp only [compOp] at h
    split at h
    · rename_i g hg
      cases h
      exact ⟨hg, rfl⟩
    · cases h
    · exfalso
      split at h
      · split at h <;> cases h
      · simp only [Option.bind_eq_some_iff] at h
        obtain ⟨el, _, i, _, h⟩ := h
        split at h <;> cases h
      · simp only [Option.bind_eq_some_iff] at h
        obtain ⟨el, _, i, _, h⟩ := h
        split at h <;> cases h
      · split at h <;> cases h
      · split at h <;> cases h
      · cases h
  | binOp op t x y ty =>
    exfalso
    simp only [compOp] at h
    have key : (if isBoolT P t then some (AOp.eqb (isNeq op) x y) else if scalarT P t then some (.bin op t x y) else match nilable P t with
        | some kd => if isNilC kd y then some (.isnil (isNeq op) kd x) else if isNilC kd x then some (.isnil (isNeq op) kd y) else none
        | none => (flatS P t).map fun ks => .eqs (isNeq op) ks x y) ≠ some (.call f args) := by
      split
      · simp
      · split
        · simp
        · split
          · split
            · simp
            · split <;> simp
          · simp [Option.map_eq_some_iff]
    cases op <;> first
      | exact key h
      | cases h
  | makeMap t r =>
    cases r <;> simp [compOp, Option.map_eq_some_iff] at h
  | build t parts =>
    exfalso
    simp only [compOp, Option.bind_eq_some_iff] at h
    obtain ⟨i, _, h⟩ := h
    split at h
    · split at h
      · simp [Option.map_eq_some_iff] at h
      · cases h
    · simp [Option.map_eq_some_iff] at h
    · cases h
  | _ =>
    exfalso
    simp only [compOp] at h
    revert h
    repeat' split
    all_goals simp [Option.bind_eq_some_iff, Option.map_eq_some_iff]

theorem frz_next : ∀ (n : Nat), (∀ (H H' : Heap) (v v' : AV), frz n H v = some (v', H') → H'.next = H.next) ∧ (∀ (H H' : Heap) (cs cs' : List AV), frz.frzL n H cs = some (cs', H') → H'.next = H.next) := by
  intro n
  induction n with
  | zero => exact ⟨fun H H' v v' h => by simp [frz] at h, fun H H' cs cs' h => by simp [frz.frzL] at h⟩
  | succ n ih =>
    obtain ⟨ih1, ih2⟩ := ih
    refine ⟨fun H H' v v' h => ?_, fun H H' cs cs' h => ?_⟩
    · cases v with
      | bad => simp [frz] at h
      | sc v =>
        simp only [frz] at h
        split at h <;> (cases h; rfl)
      | lst rows => simp only [frz] at h; cases h; rfl
      | pim rows i off => simp only [frz] at h; cases h; rfl
      | agg cs =>
        simp only [frz, Option.map_eq_some_iff] at h
        obtain ⟨⟨a, b⟩, h, h'⟩ := h
        cases h'
        exact ih2 _ _ _ _ h
      | tup cs =>
        simp only [frz, Option.map_eq_some_iff] at h
        obtain ⟨⟨a, b⟩, h, h'⟩ := h
        cases h'
        exact ih2 _ _ _ _ h
      | fn f a b =>
        simp only [frz, Option.bind_eq_bind, Option.bind_eq_some_iff] at h
        obtain ⟨⟨x, H1⟩, hx, ⟨y, H2⟩, hy, h⟩ := h
        cases h
        exact (ih2 _ _ _ _ hy).trans (ih2 _ _ _ _ hx)
      | sl id off len =>
        simp only [frz] at h
        split at h
        · split at h
          · cases h
            split
            · rfl
            · simp
          · cases h
        · cases h
      | ptr id i off =>
        simp only [frz] at h
        split at h
        · cases h
          split
          · rfl
          · simp
        · split at h
          · cases h; rfl
          · cases h
        · split at h
          · simp only [Option.bind_eq_bind, Option.bind_eq_some_iff] at h
            obtain ⟨⟨x, H1⟩, hx, h⟩ := h
            split at h
            · cases h
              rw [Heap.next_set]
              exact ih2 _ _ _ _ hx
            · cases h
          · cases h
        · cases h
      | mp id => simp [frz] at h
    · cases cs with
      | nil => simp only [frz.frzL] at h; cases h; rfl
      | cons c cs =>
        simp only [frz.frzL, Option.bind_eq_bind, Option.bind_eq_some_iff] at h
        obtain ⟨⟨x, H1⟩, hx, ⟨y, H2⟩, hy, h⟩ := h
        cases h
        exact (ih2 _ _ _ _ hy).trans (ih1 _ _ _ _ hx)
theorem fillR_next {sz : Nat} : ∀ (ps : List (Nat × AV)) (rs rs' : List (List AV)) (H H' : Heap), fillR sz rs H ps = some (rs', H') → H'.next = H.next
  | [], rs, rs', H, H', h => by simp only [fillR] at h; cases h; rfl
  | (i, v) :: ps, rs, rs', H, H', h => by
    simp only [fillR] at h
    split at h
    · simp only [Option.bind_eq_some_iff] at h
      obtain ⟨⟨cs, H1⟩, h1, h⟩ := h
      exact (fillR_next ps _ _ _ _ h).trans ((frz_next FZ).2 _ _ _ _ h1)
    · cases h
theorem storeA_next {H H' : Heap} {p v : AV} {n : Nat} (h : storeA H p n v = some H') : H'.next = H.next := by
  unfold storeA at h
  split at h
  · split at h
    · split at h
      · split at h
        · cases h; simp
        · cases h
      · simp only [Option.bind_eq_some_iff] at h
        obtain ⟨⟨cs, H1⟩, h1, h⟩ := h
        split at h
        · split at h
          · split at h
            · cases h
              rw [Heap.next_set]
              exact (frz_next FZ).2 _ _ _ _ h1
            · cases h
          · cases h
        · cases h
      · cases h
    · cases h
  · cases h
theorem opS_next {nid : Nat} {e : Env} {H H' : Heap} {o : AOp} {v : AV} (h : opS nid e H o = some (v, H')) : H.next ≤ H'.next := by
  cases o with
  | bslice sz z len ps =>
    simp only [opS, Option.map_eq_some_iff] at h
    obtain ⟨⟨rs, H1⟩, h1, h⟩ := h
    cases h
    rw [← fillR_next _ _ _ _ _ h1]
    exact Heap.next_put_le _ _ _
  | store n a x =>
    simp only [opS, Option.map_eq_some_iff] at h
    obtain ⟨H1, h1, h⟩ := h
    cases h
    exact Nat.le_of_eq (storeA_next h1).symm
  | app sz b s x =>
    simp only [opS, Option.bind_eq_some_iff] at h
    obtain ⟨xs, _, h⟩ := h
    unfold appA at h
    split at h
    · split at h
      · cases h; exact Nat.le_refl _
      · split at h
        · cases h; exact Heap.next_put_le _ _ _
        · cases h
    · split at h
      · split at h
        · cases h
          refine Nat.le_trans ?_ (Heap.next_put_le _ _ _)
          simp
        · cases h
      · cases h
    · cases h
  | copy sz d s =>
    simp only [opS, Option.bind_eq_some_iff] at h
    obtain ⟨xs, _, h⟩ := h
    simp only [Option.map_eq_some_iff] at h
    obtain ⟨⟨n, H1⟩, h1, h⟩ := h
    cases h
    unfold copyA at h1
    split at h1
    · split at h1
      · split at h1
        · cases h1; simp
        · cases h1
      · cases h1
    · split at h1
      · cases h1; exact Nat.le_refl _
      · cases h1
  | mput kd mo k v =>
    simp only [opS] at h
    split at h
    · split at h
      · split at h
        · cases h; simp
        · cases h
      · cases h
    · cases h
  | _ =>
    simp only [opS] at h
    repeat' first
      | (cases h; first | exact Nat.le_refl _ | exact Heap.next_put_le _ _ _)
      | split at h
      | (simp only [Option.bind_eq_some_iff, Option.map_eq_some_iff, Prod.mk.injEq] at h
         obtain ⟨_, _, h⟩ := h)
      | (obtain ⟨_, h⟩ := h)
    all_goals first
      | (subst h; exact Nat.le_refl _)
      | skip

structure OpDom (nid : Nat) (o : AOp) (n : Nat) (m m' : Mp) (H' : Heap) : Prop where
  dom : ∀ id mb, m' id = some mb → m id = some mb ∨ alOf nid o = some id ∨ n ≤ id
  le : n ≤ H'.next
theorem OpDom.grew {o : AOp} {m m' : Mp} {H H' : Heap} (h : OpDom H.next o H.next m m' H') : Grew H.next m m' H' :=
  ⟨fun id mb x => by
    rcases h.dom id mb x with x | x | x
    · exact .inl x
    · unfold alOf at x
      split at x
      · cases x; exact .inr (Nat.le_refl _)
      · cases x
    · exact .inr x, h.le⟩
/-- One operation of a region. -/
theorem oper_sound {cf : CF} (hcf : CfOk P cf) {ops : Array Oper} {o : Oper} {ao : AOper} (hc : compOper P ops o = some ao) {m : Mp} {F : Fz} {H H' : Heap} {w : World} {e e' : Env} {a : Act} {nid : Nat} (hfr : allocA ao.op = true → Free m H nid) (hs : Sit m F H w e a) (hd : a.defers = [])
    (h : oper cf nid ao e H = some (e', H')) {next : Act → World → Prop} {Q : Exit → Act → World → Prop}
    (hn : ∀ a' w' m' F', Sit m' F' H' w' e' a' → Ext m F w m' F' w' → a'.defers = [] → OpDom nid ao.op H.next m m' H' → next a' w') :
    if Region.wanted o (yielded ops a.tmps) = true then o.wp P a w next Q else next (a.put o.dst undef) w := by
  simp only [compOper, Option.map_eq_some_iff] at hc
  obtain ⟨op, hop, rfl⟩ := hc
  unfold oper at h
  split at h
  rotate_left
  · cases h
  rename_i hk
  rw [wanted_eq hs.env hk]
  split at h
  · rename_i hw
    rw [if_pos hw]
    simp only [Option.map_eq_some_iff, Prod.mk.injEq] at h
    obtain ⟨⟨v, H1⟩, hv, rfl, rfl⟩ := h
    have fin : ∀ (u : Value) (m' : Mp) (F' : Fz) (w' : World), VR m' F' v u → Inv m' F' H1 w' → Ext m F w m' F' w' → OpDom nid op H.next m m' H1 → next (a.put o.dst u) w' := fun u m' F' w' h1 h2 h3 h4 =>
      hn _ w' m' F' ⟨h2, (hs.env.mono h3.mm h3.ff).put o.dst h1⟩ h3 (by rw [put_defers]; exact hd) h4
    by_cases hcall : ∃ f args, op = .call f args
    · obtain ⟨f, args, rfl⟩ := hcall
      simp only [opC] at hv
      -- the loaded operation is a call of a value
      have hco := compOp_call hop
      obtain ⟨c, ho, hcal, harg⟩ := hco
      obtain ⟨k, first, caps, hfv, hcase⟩ := hcf _ _ H H1 v hv m F w (a.eval f) (c.args.map a.eval) hs.inv (hs.ev f) ⟨by rw [← harg]; simp, fun i q hq => by
        rw [← harg, List.getElem?_map, Option.map_eq_some_iff] at hq
        obtain ⟨x, hx, rfl⟩ := hq
        rw [getD_of (v := a.eval x) (by simpa using ⟨x, by simpa using hx, rfl⟩)]
        exact hs.ev x⟩
      have hrun : (execOp a.eval o).run P w = (callFunc k (first ++ c.args.map a.eval ++ caps)).run P w := by
        simp [execOp, ho, resolve, hcal, hfv, Deferred.ofValue, invoke]
      have hgd : ∀ {m' : Mp}, Grew H.next m m' H1 → OpDom nid (.call f args) H.next m m' H1 := fun h5 => ⟨fun id mb x => (h5.dom id mb x).imp_right .inr, h5.le⟩
      unfold Oper.wp
      rw [hrun]
      rcases hcase with ⟨h1, h2⟩ | ⟨u, w', h1, u', m', F', hu, h2, h3, h4, h5⟩
      · rw [h1]
        refine h2.mono fun en w' hp => ?_
        obtain ⟨u, m', F', rfl, h2, h3, h4, h5⟩ := hp
        exact fin u m' F' w' h2 h3 h4 (hgd h5)
      · rw [h1]
        cases hu
        exact fin u m' F' w' h2 h3 h4 (hgd h5)
    · have hnc : ∀ f args, op ≠ .call f args := fun f args e => hcall ⟨f, args, e⟩
      have hv' : opS nid e H op = some (v, H1) := by
        unfold opC at hv
        split at hv
        · exact absurd rfl (hnc _ _)
        · exact hv
      obtain ⟨nx, u, m', F', w', hr, hnx, h1, h2, h3, h4⟩ := opS_sound hs hfr hop hnc hv'
      have h5 : OpDom nid op H.next m m' H1 := ⟨fun id mb x => (h4 id mb x).imp_right .inl, opS_next hv'⟩
      unfold Oper.wp
      rw [hr]
      rcases hnx with rfl | ⟨rfl, rfl⟩
      · exact fin u m' F' w' h1 h2 h3 h5
      · exact fin undef m' F' w' h1 h2 h3 h5
  · rename_i hw
    rw [if_neg hw]
    simp only [Option.some.injEq, Prod.mk.injEq] at h
    obtain ⟨rfl, rfl⟩ := h
    exact hn _ w m F ⟨hs.inv, hs.env.put o.dst (.tup rfl (by simp))⟩ (Ext.refl m F w) (by rw [put_defers]; exact hd) ⟨fun _ _ h => .inl h, Nat.le_refl _⟩
end
end Go.VI

/- VI, part UA: an operation looks at few numbers and writes few; two that do not meet may change places. -/
set_option linter.unusedVariables false
set_option linter.unusedSimpArgs false
namespace Go.VI

/-- On T: as in H'; elsewhere nothing has changed. -/
structure Loc (T : List Nat) (H H' H2 H2' : Heap) : Prop where
  on : ∀ id ∈ T, H2'.get id = H'.get id
  off2 : ∀ id, id ∉ T → H2'.get id = H2.get id
  off : ∀ id, id ∉ T → H'.get id = H.get id
theorem Loc.still {T : List Nat} {H H2 : Heap} (h : ∀ id ∈ T, H2.get id = H.get id) : Loc T H H H2 H2 := ⟨h, fun _ _ => rfl, fun _ _ => rfl⟩
theorem Loc.trans {T : List Nat} {H H1 H' H2 H21 H2' : Heap} (h : Loc T H H1 H2 H21) (h' : Loc T H1 H' H21 H2') : Loc T H H' H2 H2' :=
  ⟨h'.on, fun id hi => (h'.off2 id hi).trans (h.off2 id hi), fun id hi => (h'.off id hi).trans (h.off id hi)⟩
theorem lt_of_get {H H2 : Heap} {id : Nat} (h : H2.get id = H.get id) (hl : id < H.next) : id < H2.next := by
  have : H.get id = some (H.bs[id]'hl) := List.getElem?_eq_getElem hl
  rw [this] at h
  exact Heap.get_lt h
theorem Loc.set {T : List Nat} {H H2 : Heap} {id : Nat} (B : Blk) (h : ∀ id ∈ T, H2.get id = H.get id) (hi : id ∈ T) (hl : id < H.next) : Loc T H (H.set id B) H2 (H2.set id B) := by
  have h2 := lt_of_get (h id hi) hl
  refine ⟨fun j hj => ?_, fun j hj => ?_, fun j hj => ?_⟩
  · by_cases e : j = id
    · subst e
      rw [Heap.get_set_self _ hl, Heap.get_set_self _ h2]
    · rw [Heap.get_set_ne _ e, Heap.get_set_ne _ e]
      exact h j hj
  · exact Heap.get_set_ne _ (fun e => hj (e ▸ hi))
  · exact Heap.get_set_ne _ (fun e => hj (e ▸ hi))
theorem put_set {H : Heap} {id : Nat} (B : Blk) (h : id < H.next) : H.put id B = H.set id B := by simp [Heap.put, h]
theorem Loc.put {T : List Nat} {H H2 : Heap} {id : Nat} (B : Blk) (h : ∀ id ∈ T, H2.get id = H.get id) (hi : id ∈ T) (hl : id < H.next) : Loc T H (H.put id B) H2 (H2.put id B) := by
  rw [put_set B hl, put_set B (lt_of_get (h id hi) hl)]
  exact .set B h hi hl

theorem cellsAt_congr {H H2 : Heap} {p : AV} (h : ∀ id ∈ shId p, H2.get id = H.get id) (n : Nat) : cellsAt H2 p n = cellsAt H p n := by
  cases p with
  | ptr id i off => simp only [cellsAt, h id (by simp [shId])]
  | _ => rfl
theorem rowsOf_congr {H H2 : Heap} {p : AV} (h : ∀ id ∈ shId p, H2.get id = H.get id) : rowsOf H2 p = rowsOf H p := by
  cases p with
  | sl id off len => simp only [rowsOf, h id (by simp [shId])]
  | sc v =>
    unfold rowsOf
    split <;> simp_all
  | _ => rfl
theorem rowSz_congr {H H2 : Heap} {id : Nat} (h : H2.get id = H.get id) : rowSz H2 id = rowSz H id := by simp only [rowSz, h]

theorem frz_closed : ∀ (n : Nat), (∀ (v v' : AV) (H0 : Heap), frz n Heap.empty v = some (v', H0) → H0 = Heap.empty ∧ ∀ H, frz n H v = some (v', H)) ∧
    (∀ (cs cs' : List AV) (H0 : Heap), frz.frzL n Heap.empty cs = some (cs', H0) → H0 = Heap.empty ∧ ∀ H, frz.frzL n H cs = some (cs', H)) := by
  intro n
  have hget : ∀ id, Heap.empty.get id = none := fun id => rfl
  induction n with
  | zero => exact ⟨fun v v' H' h => by simp [frz] at h, fun cs cs' H' h => by simp [frz.frzL] at h⟩
  | succ n ih =>
    obtain ⟨ih1, ih2⟩ := ih
    refine ⟨fun v v' H0 h => ?_, fun cs cs' H0 h => ?_⟩
    · cases v with
      | bad => simp [frz] at h
      | sc v =>
        simp only [frz] at h ⊢
        split at h
        · cases h; exact ⟨rfl, fun H => by simp⟩
        · cases h; exact ⟨rfl, fun H => by simp⟩
      | lst rows => simp only [frz] at h ⊢; cases h; exact ⟨rfl, fun _ => rfl⟩
      | pim rows i off => simp only [frz] at h ⊢; cases h; exact ⟨rfl, fun _ => rfl⟩
      | agg cs =>
        simp only [frz, Option.map_eq_some_iff] at h ⊢
        obtain ⟨⟨a, b⟩, h, h'⟩ := h
        cases h'
        obtain ⟨h1, h2⟩ := ih2 _ _ _ h
        exact ⟨h1, fun H => ⟨_, h2 H, rfl⟩⟩
      | tup cs =>
        simp only [frz, Option.map_eq_some_iff] at h ⊢
        obtain ⟨⟨a, b⟩, h, h'⟩ := h
        cases h'
        obtain ⟨h1, h2⟩ := ih2 _ _ _ h
        exact ⟨h1, fun H => ⟨_, h2 H, rfl⟩⟩
      | fn f a b =>
        simp only [frz, Option.bind_eq_bind, Option.bind_eq_some_iff] at h ⊢
        obtain ⟨⟨x, H1⟩, hx, ⟨y, H2⟩, hy, h⟩ := h
        cases h
        obtain ⟨rfl, h2⟩ := ih2 _ _ _ hx
        obtain ⟨rfl, h4⟩ := ih2 _ _ _ hy
        exact ⟨rfl, fun H => ⟨_, h2 H, _, h4 H, rfl⟩⟩
      | sl id off len => simp [frz, hget] at h
      | ptr id i off => simp [frz, hget] at h
      | mp id => simp [frz] at h
    · cases cs with
      | nil => simp only [frz.frzL] at h ⊢; cases h; exact ⟨rfl, fun _ => rfl⟩
      | cons c cs =>
        simp only [frz.frzL, Option.bind_eq_bind, Option.bind_eq_some_iff] at h ⊢
        obtain ⟨⟨x, H1⟩, hx, ⟨y, H2⟩, hy, h⟩ := h
        cases h
        obtain ⟨rfl, h2⟩ := ih1 _ _ _ hx
        obtain ⟨rfl, h4⟩ := ih2 _ _ _ hy
        exact ⟨rfl, fun H => ⟨_, h2 H, _, h4 H, rfl⟩⟩
theorem closedL_spec {vs : List AV} (h : closedL vs = true) : ∃ vs', ∀ H, frzCells H vs = some (vs', H) := by
  unfold closedL at h
  rw [Option.isSome_iff_exists] at h
  obtain ⟨⟨vs', H0⟩, h⟩ := h
  exact ⟨vs', ((frz_closed FZ).2 _ _ _ h).2⟩
theorem fillR_closed {sz : Nat} : ∀ (ps : List (Nat × AV)) (rs rs' : List (List AV)) (H H' : Heap), (ps.all fun p => closedL p.2.cells) = true → fillR sz rs H ps = some (rs', H') → H' = H ∧ ∀ H2, fillR sz rs H2 ps = some (rs', H2)
  | [], rs, rs', H, H', _, h => by simp only [fillR] at h ⊢; cases h; exact ⟨rfl, fun _ => rfl⟩
  | (i, v) :: ps, rs, rs', H, H', hc, h => by
    simp only [List.all_cons, Bool.and_eq_true] at hc
    obtain ⟨vs', hv⟩ := closedL_spec hc.1
    simp only [fillR, hv, Option.bind_some] at h ⊢
    split at h
    · rename_i hh
      obtain ⟨h1, h2⟩ := fillR_closed ps _ _ _ _ hc.2 h
      exact ⟨h1, fun H2 => by rw [if_pos hh]; exact h2 H2⟩
    · cases h

theorem sids_spec {vs : List AV} {t : List Nat} (h : sids vs = some t) {H H1 H2 : Heap} {cs : List AV} {T : List Nat} (ht : ∀ id ∈ t, id ∈ T) (hT : ∀ id ∈ T, H2.get id = H.get id) (hf : frzCells H vs = some (cs, H1)) :
    ∃ H21, frzCells H2 vs = some (cs, H21) ∧ Loc T H H1 H2 H21 := by
  unfold sids at h
  split at h
  · rename_i hc
    cases h
    obtain ⟨vs', hv⟩ := closedL_spec hc
    rw [hv] at hf
    cases hf
    exact ⟨H2, hv H2, .still hT⟩
  · split at h
    · rename_i _ id off len _
      cases h
      have hid := ht id (by simp)
      have hg := hT id hid
      have e1 : ∀ K : Heap, frzCells K [.sl id off len] = match K.get id with
        | some (.row fz sz rs) => if off + len ≤ rs.length then some ([.lst ((rs.drop off).take len)], if fz then K else K.set id (.row true sz rs)) else none
        | _ => none := fun K => by
          show frz.frzL 24 K [.sl id off len] = _
          simp only [frz.frzL, frz, Option.bind_eq_bind]
          cases K.get id with
          | none => rfl
          | some b =>
            cases b with
            | row fz sz rs => simp only; split <;> rfl
            | _ => rfl
      rw [e1] at hf
      rw [e1, hg]
      split at hf
      · rename_i fz sz rs hb
        split at hf
        · rename_i hh
          cases hf
          simp only [if_pos hh]
          cases fz with
          | true => exact ⟨_, rfl, .still hT⟩
          | false => exact ⟨_, rfl, .set _ hT hid (Heap.get_lt hb)⟩
        · cases hf
      · cases hf
    · cases h

/-- An operation that looks at no heap. -/
def plain : AOp → Bool
  | .mov .. | .pick .. | .build .. | .nilck .. | .bin .. | .isnil .. | .eqs .. | .eqb .. | .un .. | .conv .. | .mkfn .. | .slstr .. | .faddr .. | .field .. | .index .. | .ext .. | .mx2 .. | .mn2 .. => true
  | _ => false
theorem opS_plain {nid : Nat} {e : Env} {H H' : Heap} {o : AOp} {v : AV} (hp : plain o = true) (h : opS nid e H o = some (v, H')) : H' = H ∧ ∀ H2 nid', opS nid' e H2 o = some (v, H2) := by
  cases o with
  | alloc => cases hp
  | box => cases hp
  | bslice => cases hp
  | load => cases hp
  | store => cases hp
  | stringish => cases hp
  | tostr => cases hp
  | mkslice => cases hp
  | slice => cases hp
  | iaddr => cases hp
  | len => cases hp
  | app => cases hp
  | copy => cases hp
  | mkmap => cases hp
  | look => cases hp
  | mput => cases hp
  | call => cases hp
  | _ =>
    simp only [opS] at h ⊢
    repeat' first
      | (cases h; done)
      | (cases h; exact ⟨rfl, fun _ _ => by simp_all⟩)
      | split at h
      | (simp only [Option.bind_eq_some_iff, Option.map_eq_some_iff, Prod.mk.injEq] at h
         obtain ⟨_, _, h⟩ := h)
      | (obtain ⟨rfl, rfl⟩ := h; exact ⟨rfl, fun _ _ => by simp_all⟩)
      | (obtain ⟨_, _, h⟩ := h)

/-- An operation, seen at another heap that agrees where it looks. -/
theorem opS_local {pv : AV → List AV → Bool} {nid : Nat} {e : Env} {H H' H2 : Heap} {o : AOp} {v : AV} {wr : Bool} {T : List Nat} (hnc : ∀ f args, o ≠ .call f args)
    (hf : fpS pv nid e o = some (wr, T)) (h : opS nid e H o = some (v, H')) (hT : ∀ id ∈ T, H2.get id = H.get id) (hnx : allocA o = true → nid < H.next) :
    ∃ H2', opS nid e H2 o = some (v, H2') ∧ Loc T H H' H2 H2' ∧ (wr = false → H' = H ∧ H2' = H2) := by
  have plain_ : plain o = true → T = [] → ∃ H2', opS nid e H2 o = some (v, H2') ∧ Loc T H H' H2 H2' ∧ (wr = false → H' = H ∧ H2' = H2) := fun hp ht => by
    obtain ⟨rfl, h2⟩ := opS_plain hp h
    exact ⟨H2, h2 H2 nid, .still hT, fun _ => ⟨rfl, rfl⟩⟩
  have reads : ∀ {x : AV}, some (false, shId x) = some (wr, T) → (opS nid e H o = some (v, H') → H' = H) → opS nid e H2 o = (opS nid e H o).map (fun p => (p.1, H2)) →
      ∃ H2', opS nid e H2 o = some (v, H2') ∧ Loc T H H' H2 H2' ∧ (wr = false → H' = H ∧ H2' = H2) := fun _ h1 h2 => by
    obtain rfl := h1 h
    rw [h] at h2
    exact ⟨H2, h2, .still hT, fun _ => ⟨rfl, rfl⟩⟩
  cases o with
  | alloc z =>
    simp only [fpS, Option.some.injEq, Prod.mk.injEq] at hf
    obtain ⟨rfl, rfl⟩ := hf
    simp only [opS, Option.some.injEq, Prod.mk.injEq] at h
    obtain ⟨rfl, rfl⟩ := h
    exact ⟨_, rfl, .put _ hT (by simp) (hnx rfl), by simp⟩
  | mkmap kd =>
    simp only [fpS, Option.some.injEq, Prod.mk.injEq] at hf
    obtain ⟨rfl, rfl⟩ := hf
    simp only [opS, Option.some.injEq, Prod.mk.injEq] at h
    obtain ⟨rfl, rfl⟩ := h
    exact ⟨_, rfl, .put _ hT (by simp) (hnx rfl), by simp⟩
  | box n x =>
    simp only [fpS, Option.some.injEq, Prod.mk.injEq] at hf
    obtain ⟨rfl, rfl⟩ := hf
    simp only [opS] at h ⊢
    split at h
    · rename_i hh
      simp only [Option.some.injEq, Prod.mk.injEq] at h
      obtain ⟨rfl, rfl⟩ := h
      exact ⟨_, by rw [if_pos hh], .put _ hT (by simp) (hnx rfl), by simp⟩
    · cases h
  | mkslice sz b z l c =>
    simp only [fpS, Option.some.injEq, Prod.mk.injEq] at hf
    obtain ⟨rfl, rfl⟩ := hf
    simp only [opS, Option.bind_eq_some_iff] at h ⊢
    obtain ⟨l', hl, c', hc, h⟩ := h
    split at h
    · rename_i hh
      simp only [Option.some.injEq, Prod.mk.injEq] at h
      obtain ⟨rfl, rfl⟩ := h
      exact ⟨_, ⟨l', hl, c', hc, by rw [if_pos hh]⟩, .put _ hT (by simp) (hnx rfl), by simp⟩
    · cases h
  | bslice sz z len ps =>
    simp only [fpS] at hf
    split at hf
    rotate_left
    · cases hf
    rename_i hcl
    simp only [Option.some.injEq, Prod.mk.injEq] at hf
    obtain ⟨rfl, rfl⟩ := hf
    simp only [opS, Option.map_eq_some_iff] at h ⊢
    obtain ⟨⟨rs, H1⟩, h1, h⟩ := h
    cases h
    obtain ⟨rfl, h2⟩ := fillR_closed _ _ _ _ _ (by simpa [List.all_map] using hcl) h1
    exact ⟨_, ⟨(rs, H2), h2 H2, rfl⟩, .put _ hT (by simp) (hnx rfl), by simp⟩
  | load g n x =>
    have hT' : ∀ id ∈ shId (ev e x), H2.get id = H.get id := by
      simp only [fpS, Option.some.injEq, Prod.mk.injEq] at hf
      exact hf.2 ▸ hT
    refine reads hf (fun h => ?_) ?_
    · simp only [opS, Option.bind_eq_some_iff, Option.map_eq_some_iff] at h
      obtain ⟨_, _, _, _, h⟩ := h
      cases h; rfl
    · simp only [opS, cellsAt_congr hT']
      cases cellsAt H (ev e x) n <;> simp
      rename_i cs
      cases pack g cs <;> rfl
  | store n a x =>
    simp only [fpS, Option.map_eq_some_iff, Prod.mk.injEq] at hf
    obtain ⟨t, hs, rfl, rfl⟩ := hf
    simp only [opS, Option.map_eq_some_iff] at h ⊢
    obtain ⟨H1, h, h'⟩ := h
    cases h'
    unfold storeA at h ⊢
    split at h
    rotate_left
    · cases h
    rename_i hh
    rw [if_pos hh]
    split at h
    rotate_left
    · cases h
    rename_i id i off hp
    rw [hp] at hT
    have hid : id ∈ shId (.ptr id i off) ++ t := by simp [shId]
    have hg := hT id hid
    simp only [hg]
    split at h
    · rename_i cs hb
      split at h
      · rename_i h2
        cases h
        refine ⟨_, ⟨_, by rw [if_pos h2], rfl⟩, ?_, by simp⟩
        rw [hp]
        exact .set _ hT hid (Heap.get_lt hb)
      · cases h
    · rename_i s1 rs1 hb
      rw [Option.bind_eq_some_iff] at h
      obtain ⟨⟨cs, H3⟩, hf, h⟩ := h
      obtain ⟨H23, hf2, hL⟩ := sids_spec hs (T := shId (.ptr id i off) ++ t) (fun id h => by simp [h]) hT hf
      simp only [hf2, Option.bind_some] at h ⊢
      have hg3 := hL.on id hid
      rw [hg3]
      split at h
      · rename_i sz rs hb2
        split at h
        · rename_i r hr
          split at h
          · rename_i h2
            cases h
            refine ⟨_, ⟨_, by rw [if_pos h2], rfl⟩, ?_, by simp⟩
            rw [hp]
            exact hL.trans (.set _ (fun j hj => hL.on j hj) hid (Heap.get_lt hb2))
          · cases h
        · cases h
      · cases h
    · cases h
  | stringish x =>
    refine reads hf (fun h => ?_) ?_
    · simp only [opS] at h
      split at h
      · split at h
        · cases h; rfl
        · cases h
      · cases h
    · have hT' : ∀ id ∈ shId (ev e x), H2.get id = H.get id := by
        simp only [fpS, Option.some.injEq, Prod.mk.injEq] at hf
        exact hf.2 ▸ hT
      simp only [opS]
      split
      · rename_i id off len hx
        rw [hx] at hT'
        rw [rowSz_congr (hT' id (by simp [shId]))]
        cases rowSz H id <;> rfl
      · rfl
  | tostr x =>
    have hT' : ∀ id ∈ shId (ev e x), H2.get id = H.get id := by
      simp only [fpS, Option.some.injEq, Prod.mk.injEq] at hf
      exact hf.2 ▸ hT
    refine reads hf (fun h => ?_) ?_
    · simp only [opS, Option.bind_eq_some_iff, Option.map_eq_some_iff] at h
      obtain ⟨_, _, _, _, h⟩ := h
      cases h; rfl
    · simp only [opS, rowsOf_congr hT']
      cases rowsOf H (ev e x) <;> simp
      rename_i cs
      cases bytesOfRows cs <;> rfl
  | slice sz x lo hi mx =>
    have hT' : ∀ id ∈ shId (ev e x), H2.get id = H.get id := by
      simp only [fpS, Option.some.injEq, Prod.mk.injEq] at hf
      exact hf.2 ▸ hT
    have hsl : ∀ a b c, sliceA H2 sz (ev e x) a b c = sliceA H sz (ev e x) a b c := fun a b c => by
      unfold sliceA
      split
      · rfl
      · rename_i id off len hx
        rw [hx] at hT'
        rw [rowSz_congr (hT' id (by simp [shId]))]
      · rfl
      · rfl
    refine reads hf (fun h => ?_) ?_
    · simp only [opS, Option.bind_eq_some_iff, Option.map_eq_some_iff] at h
      obtain ⟨_, _, _, _, _, _, _, _, h⟩ := h
      cases h; rfl
    · simp only [opS, hsl]
      cases optI e lo <;> simp
      cases optI e hi <;> simp
      cases optI e mx <;> simp
      rename_i a b c
      cases sliceA H sz (ev e x) a b c <;> rfl
  | iaddr arr sz x ix =>
    have hT' : ∀ id ∈ shId (ev e x), H2.get id = H.get id := by
      simp only [fpS, Option.some.injEq, Prod.mk.injEq] at hf
      exact hf.2 ▸ hT
    have hsl : ∀ i, iaddrA H2 arr sz (ev e x) i = iaddrA H arr sz (ev e x) i := fun i => by
      unfold iaddrA
      split
      · rfl
      · rename_i id off len hx
        rw [hx] at hT'
        rw [rowSz_congr (hT' id (by simp [shId]))]
      · rfl
      · rfl
      · rfl
    refine reads hf (fun h => ?_) ?_
    · simp only [opS, Option.bind_eq_some_iff, Option.map_eq_some_iff] at h
      obtain ⟨_, _, _, _, h⟩ := h
      cases h; rfl
    · simp only [opS, hsl]
      cases toI (ev e ix) <;> simp
      rename_i i
      cases iaddrA H arr sz (ev e x) i <;> rfl
  | len kd x =>
    have hT' : ∀ id ∈ shId (ev e x), H2.get id = H.get id := by
      simp only [fpS, Option.some.injEq, Prod.mk.injEq] at hf
      exact hf.2 ▸ hT
    refine reads hf (fun h => ?_) ?_
    · simp only [opS] at h
      split at h
      · split at h
        · split at h
          · cases h; rfl
          · cases h
        · cases h
      · simp only [Option.map_eq_some_iff] at h
        obtain ⟨_, _, h⟩ := h
        cases h; rfl
    · simp only [opS]
      split
      · rename_i id hx
        rw [hx] at hT'
        rw [hT' id (by simp [shId])]
        split
        · split <;> rfl
        · rfl
      · cases lenOfA kd (ev e x) <;> rfl
  | look kd z mo k ok =>
    have hT' : ∀ id ∈ shId (ev e mo), H2.get id = H.get id := by
      simp only [fpS, Option.some.injEq, Prod.mk.injEq] at hf
      exact hf.2 ▸ hT
    refine reads hf (fun h => ?_) ?_
    · simp only [opS] at h
      split at h
      · split at h
        · split at h
          · cases h; rfl
          · cases h
        · cases h
      · cases h
    · simp only [opS]
      split
      · rename_i id hx
        rw [hx] at hT'
        rw [hT' id (by simp [shId])]
        split
        · split <;> rfl
        · rfl
      · rfl
  | mput kd mo k x =>
    simp only [fpS, Option.some.injEq, Prod.mk.injEq] at hf
    obtain ⟨rfl, rfl⟩ := hf
    simp only [opS] at h ⊢
    split at h
    rotate_left
    · cases h
    rename_i id hm
    rw [hm] at hT ⊢
    simp only [hT id (by simp [shId])]
    split at h
    · rename_i kd' es hb
      split at h
      · rename_i hh
        cases h
        exact ⟨_, by rw [if_pos hh], .set _ hT (by simp [shId]) (Heap.get_lt hb), by simp⟩
      · cases h
    · cases h
  | app sz b s x =>
    simp only [fpS, Option.some.injEq, Prod.mk.injEq] at hf
    obtain ⟨rfl, rfl⟩ := hf
    have hTx : ∀ id ∈ shId (ev e x), H2.get id = H.get id := fun id hi => hT id (by simp [hi])
    have hn := hnx rfl
    simp only [opS, rowsOf_congr hTx, Option.bind_eq_some_iff] at h ⊢
    obtain ⟨xs, hxs, h⟩ := h
    unfold appA at h ⊢
    split at h
    · rename_i hs
      rw [hs] at hT ⊢
      split at h
      · rename_i h0
        cases h
        exact ⟨_, ⟨xs, hxs, by simp only [if_pos h0, hs]⟩, .still hT, by simp⟩
      · rename_i h0
        split at h
        · rename_i hh
          cases h
          exact ⟨_, ⟨xs, hxs, by simp only [if_neg h0, if_pos hh]⟩, .put _ hT (by simp) hn, by simp⟩
        · cases h
    · rename_i id off len hs
      rw [hs] at hT ⊢
      have hg := hT id (by simp [shId])
      split at h
      · rename_i sz' rs hb
        split at h
        · rename_i hh
          cases h
          refine ⟨(H2.set id .dead).put nid (.row false sz ((rs.drop off).take len ++ xs)), ⟨xs, hxs, by simp only [hg, hb, if_pos hh]⟩, ?_, by simp⟩
          have l1 := Loc.set .dead hT (id := id) (by simp [shId]) (Heap.get_lt hb)
          exact l1.trans (.put _ l1.on (by simp) (by simpa using hn))
        · cases h
      · cases h
    · cases h
  | copy sz d s =>
    simp only [fpS, Option.some.injEq, Prod.mk.injEq] at hf
    obtain ⟨rfl, rfl⟩ := hf
    have hTx : ∀ id ∈ shId (ev e s), H2.get id = H.get id := fun id hi => hT id (by simp [hi])
    simp only [opS, rowsOf_congr hTx, Option.bind_eq_some_iff] at h ⊢
    obtain ⟨xs, hxs, h⟩ := h
    simp only [Option.map_eq_some_iff] at h ⊢
    obtain ⟨⟨n, H1⟩, h, h'⟩ := h
    cases h'
    unfold copyA at h ⊢
    split at h
    · rename_i id off len hd
      rw [hd] at hT ⊢
      have hg := hT id (by simp [shId])
      split at h
      · rename_i sz' rs hb
        split at h
        · rename_i hh
          cases h
          exact ⟨H2.set id (.row false sz (splice rs off (xs.take (min xs.length len)))), ⟨xs, hxs, (min xs.length len, H2.set id (.row false sz (splice rs off (xs.take (min xs.length len))))), by simp only [hg, hb, if_pos hh], rfl⟩, .set _ hT (by simp [shId]) (Heap.get_lt hb), by simp⟩
        · cases h
      · cases h
    · rename_i hns
      split at h
      · rename_i hl
        cases h
        refine ⟨H2, ⟨xs, hxs, (0, H2), ?_, rfl⟩, .still hT, by simp⟩
        first
          | rw [if_pos hl]
          | (split <;> first
              | rw [if_pos hl]
              | (rename_i hd; exact absurd hd (hns _ _ _)))
      · cases h
  | call f args => exact absurd rfl (hnc f args)
  | _ =>
    refine plain_ rfl ?_
    simp only [fpS, Option.some.injEq, Prod.mk.injEq] at hf
    exact hf.2.symm
end Go.VI

/- VI, part UB: two operations that do not meet may change places. -/
set_option linter.unusedVariables false
set_option linter.unusedSimpArgs false
namespace Go.VI

def Agree (ts : List Nat) (e e2 : Env) : Prop := ∀ t ∈ ts, e2.getD t .bad = e.getD t .bad
theorem ev_congr {e e2 : Env} {x : Operand} (h : Agree (slotsX x) e e2) : ev e2 x = ev e x := by
  cases x with
  | tmp t => exact h t (by simp [slotsX])
  | _ => rfl
theorem optI_congr {e e2 : Env} {x : Option Operand} (h : Agree (slotsO x) e e2) : optI e2 x = optI e x := by
  cases x with
  | none => rfl
  | some x => simp only [optI, ev_congr (x := x) h]
theorem map_ev_congr {e e2 : Env} {xs : List Operand} (h : Agree (xs.flatMap slotsX) e e2) : xs.map (ev e2) = xs.map (ev e) :=
  List.map_congr_left fun x hx => ev_congr fun t ht => h t (List.mem_flatMap.2 ⟨x, hx, ht⟩)

theorem opS_congr {pv : AV → List AV → Bool} {nid : Nat} {e e2 : Env} {H : Heap} {o : AOp} (h : Agree (slotsA o) e e2) : opS nid e2 H o = opS nid e H o ∧ fpS pv nid e2 o = fpS pv nid e o := by
  have sub : ∀ {x : Operand}, (∀ t ∈ slotsX x, t ∈ slotsA o) → ev e2 x = ev e x := fun hx => ev_congr fun t ht => h t (hx t ht)
  have subO : ∀ {x : Option Operand}, (∀ t ∈ slotsO x, t ∈ slotsA o) → optI e2 x = optI e x := fun hx => optI_congr fun t ht => h t (hx t ht)
  cases o with
  | mov x => have h1 := sub (x := x) (by simp [slotsA]); simp only [opS, fpS, h1, and_self]
  | box n x => have h1 := sub (x := x) (by simp [slotsA]); simp only [opS, fpS, h1, and_self]
  | nilck x => have h1 := sub (x := x) (by simp [slotsA]); simp only [opS, fpS, h1, and_self]
  | un n x => have h1 := sub (x := x) (by simp [slotsA]); simp only [opS, fpS, h1, and_self]
  | conv n x => have h1 := sub (x := x) (by simp [slotsA]); simp only [opS, fpS, h1, and_self]
  | stringish x => have h1 := sub (x := x) (by simp [slotsA]); simp only [opS, fpS, h1, and_self]
  | tostr x => have h1 := sub (x := x) (by simp [slotsA]); simp only [opS, fpS, h1, and_self]
  | faddr n x => have h1 := sub (x := x) (by simp [slotsA]); simp only [opS, fpS, h1, and_self]
  | field a b c x => have h1 := sub (x := x) (by simp [slotsA]); simp only [opS, fpS, h1, and_self]
  | ext x i => have h1 := sub (x := x) (by simp [slotsA]); simp only [opS, fpS, h1, and_self]
  | len n x => have h1 := sub (x := x) (by simp [slotsA]); simp only [opS, fpS, h1, and_self]
  | load a n x => have h1 := sub (x := x) (by simp [slotsA]); simp only [opS, fpS, h1, and_self]
  | isnil a n x => have h1 := sub (x := x) (by simp [slotsA]); simp only [opS, fpS, h1, and_self]
  | pick c a b =>
    have h1 := sub (x := c) (by simp +contextual [slotsA])
    have h2 := sub (x := a) (by simp +contextual [slotsA])
    have h3 := sub (x := b) (by simp +contextual [slotsA])
    simp only [opS, fpS, h1, h2, h3, and_self]
  | alloc z => exact ⟨rfl, rfl⟩
  | mkmap kd => exact ⟨rfl, rfl⟩
  | build z ps =>
    have h1 : ps.map (fun (o, n, x) => (o, n, ev e2 x)) = ps.map (fun (o, n, x) => (o, n, ev e x)) := List.map_congr_left fun p hp => by
      have := sub (x := p.2.2) fun t ht => List.mem_flatMap.2 ⟨p, hp, ht⟩
      simp only [this]
    simp only [opS, fpS, h1, and_self]
  | bslice sz z len ps =>
    have h0 : ∀ p ∈ ps, ev e2 p.2 = ev e p.2 := fun p hp => sub fun t ht => List.mem_flatMap.2 ⟨p, hp, ht⟩
    have h1 : ps.map (fun (i, x) => (i, ev e2 x)) = ps.map (fun (i, x) => (i, ev e x)) := List.map_congr_left fun p hp => by simp only [h0 p hp]
    have h2 : (ps.all fun p => closedL (ev e2 p.2).cells) = ps.all fun p => closedL (ev e p.2).cells := by
      clear h1
      induction ps with
      | nil => rfl
      | cons p ps ih =>
        simp only [List.all_cons, h0 p List.mem_cons_self]
        congr 1
        exact ih (fun t ht => h t (by simp only [slotsA, List.flatMap_cons, List.mem_append]; exact .inr ht)) (fun hx => ev_congr fun t ht => h t (by simp only [slotsA, List.flatMap_cons, List.mem_append]; exact .inr (hx t ht))) (fun hx => optI_congr fun t ht => h t (by simp only [slotsA, List.flatMap_cons, List.mem_append]; exact .inr (hx t ht))) fun q hq => h0 q (List.mem_cons_of_mem _ hq)
    simp only [opS, fpS, h1, h2, and_self]
  | store n a b =>
    have h2 := sub (x := a) (by simp +contextual [slotsA])
    have h3 := sub (x := b) (by simp +contextual [slotsA])
    simp only [opS, fpS, h2, h3, and_self]
  | bin c d a b =>
    have h2 := sub (x := a) (by simp +contextual [slotsA])
    have h3 := sub (x := b) (by simp +contextual [slotsA])
    simp only [opS, fpS, h2, h3, and_self]
  | eqs c d a b =>
    have h2 := sub (x := a) (by simp +contextual [slotsA])
    have h3 := sub (x := b) (by simp +contextual [slotsA])
    simp only [opS, fpS, h2, h3, and_self]
  | eqb d a b =>
    have h2 := sub (x := a) (by simp +contextual [slotsA])
    have h3 := sub (x := b) (by simp +contextual [slotsA])
    simp only [opS, fpS, h2, h3, and_self]
  | mx2 a b =>
    have h2 := sub (x := a) (by simp +contextual [slotsA])
    have h3 := sub (x := b) (by simp +contextual [slotsA])
    simp only [opS, fpS, h2, h3, and_self]
  | mn2 a b =>
    have h2 := sub (x := a) (by simp +contextual [slotsA])
    have h3 := sub (x := b) (by simp +contextual [slotsA])
    simp only [opS, fpS, h2, h3, and_self]
  | mkfn f xs ys =>
    have h1 := map_ev_congr (xs := xs) (e := e) (e2 := e2) fun t ht => h t (by simp only [slotsA, List.mem_append]; exact .inl ht)
    have h2 := map_ev_congr (xs := ys) (e := e) (e2 := e2) fun t ht => h t (by simp only [slotsA, List.mem_append]; exact .inr ht)
    simp only [opS, fpS, h1, h2, and_self]
  | mkslice c d z a b =>
    have h2 := sub (x := a) (by simp +contextual [slotsA])
    have h3 := sub (x := b) (by simp +contextual [slotsA])
    simp only [opS, fpS, h2, h3, and_self]
  | slice sz x a b c =>
    have h0 := sub (x := x) (by simp +contextual [slotsA])
    have h1 := subO (x := a) (by simp +contextual [slotsA])
    have h2 := subO (x := b) (by simp +contextual [slotsA])
    have h3 := subO (x := c) (by simp +contextual [slotsA])
    simp only [opS, fpS, h0, h1, h2, h3, and_self]
  | slstr x a b =>
    have h0 := sub (x := x) (by simp +contextual [slotsA])
    have h1 := subO (x := a) (by simp +contextual [slotsA])
    have h2 := subO (x := b) (by simp +contextual [slotsA])
    simp only [opS, fpS, h0, h1, h2, and_self]
  | iaddr c d a b =>
    have h2 := sub (x := a) (by simp +contextual [slotsA])
    have h3 := sub (x := b) (by simp +contextual [slotsA])
    simp only [opS, fpS, h2, h3, and_self]
  | index c d f a b =>
    have h2 := sub (x := a) (by simp +contextual [slotsA])
    have h3 := sub (x := b) (by simp +contextual [slotsA])
    simp only [opS, fpS, h2, h3, and_self]
  | app c d a b =>
    have h2 := sub (x := a) (by simp +contextual [slotsA])
    have h3 := sub (x := b) (by simp +contextual [slotsA])
    simp only [opS, fpS, h2, h3, and_self]
  | copy d a b =>
    have h2 := sub (x := a) (by simp +contextual [slotsA])
    have h3 := sub (x := b) (by simp +contextual [slotsA])
    simp only [opS, fpS, h2, h3, and_self]
  | look c d a b f =>
    have h2 := sub (x := a) (by simp +contextual [slotsA])
    have h3 := sub (x := b) (by simp +contextual [slotsA])
    simp only [opS, fpS, h2, h3, and_self]
  | mput d a b c =>
    have h1 := sub (x := c) (by simp +contextual [slotsA])
    have h2 := sub (x := a) (by simp +contextual [slotsA])
    have h3 := sub (x := b) (by simp +contextual [slotsA])
    simp only [opS, fpS, h1, h2, h3, and_self]
  | call f xs =>
    have h1 := sub (x := f) (by simp +contextual [slotsA])
    have h2 := map_ev_congr (xs := xs) (e := e) (e2 := e2) fun t ht => h t (by simp only [slotsA, List.mem_append]; exact .inr ht)
    simp only [opS, fpS, h1, h2, and_self]

/-! ### with its guard -/
def opv (cf : CF) (nid : Nat) (o : AOper) (e : Env) (H : Heap) : Option (AV × Heap) :=
  if knownA e o.guard then if wantA e o.guard then opC cf nid e H o.op else some (.tup [], H) else none
theorem oper_eq (cf : CF) (nid : Nat) (o : AOper) (e : Env) (H : Heap) : oper cf nid o e H = (opv cf nid o e H).map fun (v, H) => (putA e o.dst v, H) := by
  unfold oper opv
  split
  · split
    · rfl
    · rfl
  · rfl
theorem opC_congr {cf : CF} {nid : Nat} {e e2 : Env} {H : Heap} {o : AOp} (h : Agree (slotsA o) e e2) : opC cf nid e2 H o = opC cf nid e H o := by
  cases o with
  | call f xs =>
    have h1 := ev_congr (x := f) (e := e) (e2 := e2) fun t ht => h t (by simp only [slotsA, List.mem_append]; exact .inl ht)
    have h2 := map_ev_congr (xs := xs) (e := e) (e2 := e2) fun t ht => h t (by simp only [slotsA, List.mem_append]; exact .inr ht)
    simp only [opC, h1, h2]
  | _ => exact (opS_congr (pv := fun _ _ => false) (nid := nid) h).1
theorem opv_congr {cf : CF} {pv : AV → List AV → Bool} {nid : Nat} {e e2 : Env} {H : Heap} {o : AOper} (h : Agree (slotsG o) e e2) : opv cf nid o e2 H = opv cf nid o e H ∧ fpO pv nid e2 o = fpO pv nid e o := by
  have h1 : knownA e2 o.guard = knownA e o.guard ∧ wantA e2 o.guard = wantA e o.guard := by
    cases hg : o.guard with
    | none => exact ⟨rfl, rfl⟩
    | some g =>
      obtain ⟨t, b⟩ := g
      cases t with
      | none => exact ⟨rfl, rfl⟩
      | some t =>
        have : e2.getD t .bad = e.getD t .bad := h t (by simp [slotsG, hg])
        simp only [knownA, wantA, this, and_self]
  have h2 : Agree (slotsA o.op) e e2 := fun t ht => h t (by simp only [slotsG, List.mem_append]; exact .inl ht)
  simp only [opv, fpO, h1.1, h1.2, opC_congr h2, (opS_congr (pv := pv) (nid := nid) (H := H) h2).2, and_self]

/-- Calls that are free of the heap are so; calls never give numbers back. -/
structure CfPure (cf : CF) (pv : AV → List AV → Bool) : Prop where
  pure : ∀ f args H v H', pv f args = true → cf f args H = some (v, H') → H' = H ∧ ∀ H2, cf f args H2 = some (v, H2)
  next : ∀ f args H v H', cf f args H = some (v, H') → H.next ≤ H'.next

theorem opv_local {cf : CF} {pv : AV → List AV → Bool} (hcp : CfPure cf pv) {nid : Nat} {e : Env} {H H' H2 : Heap} {o : AOper} {v : AV} {wr : Bool} {T : List Nat}
    (hf : fpO pv nid e o = some (wr, T)) (h : opv cf nid o e H = some (v, H')) (hT : ∀ id ∈ T, H2.get id = H.get id) (hnx : allocA o.op = true → nid < H.next) :
    ∃ H2', opv cf nid o e H2 = some (v, H2') ∧ Loc T H H' H2 H2' ∧ (wr = false → H' = H ∧ H2' = H2) := by
  unfold opv at h ⊢
  unfold fpO at hf
  split at h
  rotate_left
  · cases h
  rename_i hk
  rw [if_pos hk]
  split at h
  · rename_i hw
    rw [if_pos hw] at hf ⊢
    by_cases hc : ∃ f args, o.op = .call f args
    · obtain ⟨f, args, hc⟩ := hc
      simp only [hc, opC, fpS] at h hf ⊢
      split at hf
      · rename_i hp
        cases hf
        obtain ⟨rfl, h2⟩ := hcp.pure _ _ _ _ _ hp h
        exact ⟨H2, h2 H2, .still hT, fun _ => ⟨rfl, rfl⟩⟩
      · cases hf
    · have hnc : ∀ f args, o.op ≠ .call f args := fun f args e => hc ⟨f, args, e⟩
      have hop : ∀ H0, opC cf nid e H0 o.op = opS nid e H0 o.op := fun H0 => by
        unfold opC
        split
        · exact absurd ‹_› (hnc _ _)
        · rfl
      rw [hop] at h
      rw [hop]
      exact opS_local hnc hf h hT hnx
  · rename_i hw
    rw [if_neg hw] at hf ⊢
    cases h
    cases hf
    exact ⟨H2, rfl, .still hT, fun _ => ⟨rfl, rfl⟩⟩
theorem opv_next {cf : CF} {pv : AV → List AV → Bool} (hcp : CfPure cf pv) {nid : Nat} {e : Env} {H H' : Heap} {o : AOper} {v : AV} (h : opv cf nid o e H = some (v, H')) : H.next ≤ H'.next := by
  unfold opv at h
  split at h
  · split at h
    · unfold opC at h
      split at h
      · exact hcp.next _ _ _ _ _ h
      · exact opS_next h
    · cases h; exact Nat.le_refl _
  · cases h

theorem apartA_spec {x y : AOper} (h : apartA x y = true) : (∀ d, x.dst = some d → d ∉ slotsG y ∧ y.dst ≠ some d) ∧ (∀ d, y.dst = some d → d ∉ slotsG x) := by
  refine ⟨fun d hd => ?_, fun d hd => ?_⟩ <;> simp [apartA, hd] at h
  · exact ⟨h.1.1, h.1.2⟩
  · exact h.2
theorem agree_put {ts : List Nat} {e : Env} {d : Option Nat} {v : AV} (h : ∀ t, d = some t → t ∉ ts) : Agree ts e (putA e d v) := by
  intro t ht
  cases d with
  | none => rfl
  | some s =>
    have : s ≠ t := fun e => h s rfl (e ▸ ht)
    simp only [putA]
    rw [List.getD_eq_getElem?_getD, List.getD_eq_getElem?_getD, List.getElem?_set_ne this]
theorem Agree.symm {ts : List Nat} {e e2 : Env} (h : Agree ts e e2) : Agree ts e2 e := fun t ht => (h t ht).symm
theorem putA_comm (e : Env) {x y : Option Nat} (u v : AV) (h : ∀ d, x = some d → y ≠ some d) : putA (putA e x u) y v = putA (putA e y v) x u := by
  cases x with
  | none => rfl
  | some a =>
    cases y with
    | none => rfl
    | some b => exact List.set_comm _ _ (fun e => h a rfl (by rw [e]))

/-- Their places changed. -/
theorem opv_swap {cf : CF} {pv : AV → List AV → Bool} (hcp : CfPure cf pv) {nx ny : Nat} {x y : AOper} {e : Env} {H H1 H2 : Heap} {u v : AV} (hfc : compat (fpO pv nx e x) (fpO pv ny e y) = true)
    (hx : opv cf nx x e H = some (u, H1)) (hy : opv cf ny y e H1 = some (v, H2)) (hnx : allocA x.op = true → nx < H.next) (hny : allocA y.op = true → ny < H1.next) :
    ∃ H1', opv cf ny y e H = some (v, H1') ∧ opv cf nx x e H1' = some (u, H2) := by
  have empty : ∀ {n : Nat} {o : AOper} {w : Bool} {K K' : Heap} {z : AV}, fpO pv n e o = some (w, []) → opv cf n o e K = some (z, K') → (allocA o.op = true → n < K.next) → K' = K ∧ ∀ K2, opv cf n o e K2 = some (z, K2) := fun hf h hn => by
    refine ⟨?_, fun K2 => ?_⟩
    · obtain ⟨_, _, l, _⟩ := opv_local hcp hf h (H2 := Heap.empty) (fun _ h => by cases h) hn
      exact Heap.ext fun id => l.off id (by simp)
    · obtain ⟨K3, h3, l, _⟩ := opv_local hcp hf h (H2 := K2) (fun _ h => by cases h) hn
      have : K3 = K2 := Heap.ext fun id => l.off2 id (by simp)
      rw [← this]
      rw [this] at h3 ⊢
      exact h3
  generalize hfx : fpO pv nx e x = fx at hfc
  generalize hfy : fpO pv ny e y = fy at hfc
  unfold compat at hfc
  split at hfc
  · obtain ⟨rfl, k⟩ := empty hfx hx hnx
    exact ⟨H2, hy, k H2⟩
  · obtain ⟨rfl, k⟩ := empty hfy hy hny
    exact ⟨H, k H, hx⟩
  · rename_i w1 t1 w2 t2 _ _
    simp only [Bool.or_eq_true, Bool.and_eq_true, Bool.not_eq_true', List.all_eq_true] at hfc
    by_cases hw : w1 = false ∧ w2 = false
    · obtain ⟨rfl, rfl⟩ := hw
      obtain ⟨_, _, _, k1⟩ := opv_local hcp hfx hx (H2 := H) (fun _ _ => rfl) hnx
      obtain ⟨rfl, _⟩ := k1 rfl
      obtain ⟨_, _, _, k2⟩ := opv_local hcp hfy hy (H2 := H1) (fun _ _ => rfl) hny
      obtain ⟨rfl, _⟩ := k2 rfl
      exact ⟨_, hy, hx⟩
    · have hd : ∀ i ∈ t1, i ∉ t2 := fun i hi => by
        rcases hfc with h | h
        · exact absurd h hw
        · have := h i hi
          simpa using this
      have hd2 : ∀ i ∈ t2, i ∉ t1 := fun i hi h => hd i h hi
      obtain ⟨_, _, lx, _⟩ := opv_local hcp hfx hx (H2 := H) (fun _ _ => rfl) hnx
      obtain ⟨H1', y1, ly, _⟩ := opv_local hcp hfy hy (H2 := H) (fun i hi => (lx.off i (hd2 i hi)).symm) hny
      obtain ⟨H2', x1, lx2, _⟩ := opv_local hcp hfx hx (H2 := H1') (fun i hi => ly.off2 i (hd i hi)) hnx
      refine ⟨H1', y1, ?_⟩
      have : H2' = H2 := Heap.ext fun i => by
        by_cases h1 : i ∈ t1
        · rw [lx2.on i h1, ly.off i (hd i h1)]
        · rw [lx2.off2 i h1]
          by_cases h2 : i ∈ t2
          · rw [ly.on i h2]
          · rw [ly.off2 i h2, ly.off i h2, lx.off i h1]
      rw [← this]
      exact x1
  · cases hfc

theorem oper_swap {cf : CF} {pv : AV → List AV → Bool} (hcp : CfPure cf pv) {nx ny : Nat} {x y : AOper} {e e1 e2 : Env} {H H1 H2 : Heap} (hap : apartA x y = true) (hfc : compat (fpO pv nx e x) (fpO pv ny e1 y) = true)
    (hx : oper cf nx x e H = some (e1, H1)) (hy : oper cf ny y e1 H1 = some (e2, H2)) (hnx : allocA x.op = true → nx < H.next) (hny : allocA y.op = true → ny < H1.next) :
    ∃ e1' H1', oper cf ny y e H = some (e1', H1') ∧ oper cf nx x e1' H1' = some (e2, H2) ∧ fpO pv ny e y = fpO pv ny e1 y ∧ fpO pv nx e1' x = fpO pv nx e x := by
  obtain ⟨a1, a2⟩ := apartA_spec hap
  rw [oper_eq, Option.map_eq_some_iff] at hx hy
  obtain ⟨⟨u, K1⟩, hx, h'⟩ := hx
  simp only [Prod.mk.injEq] at h'
  obtain ⟨rfl, rfl⟩ := h'
  obtain ⟨⟨v, K2⟩, hy, h'⟩ := hy
  simp only [Prod.mk.injEq] at h'
  obtain ⟨rfl, rfl⟩ := h'
  have g1 : Agree (slotsG y) e (putA e x.dst u) := agree_put fun t ht => (a1 t ht).1
  have g2 : Agree (slotsG x) e (putA e y.dst v) := agree_put fun t ht => a2 t ht
  rw [(opv_congr (cf := cf) (pv := pv) g1).1] at hy
  rw [(opv_congr (cf := cf) (H := H) (nid := ny) (pv := pv) g1).2] at hfc
  obtain ⟨H1', y1, x1⟩ := opv_swap hcp hfc hx hy hnx hny
  refine ⟨putA e y.dst v, H1', by rw [oper_eq, y1]; rfl, ?_, ((opv_congr (cf := cf) (H := H) (pv := pv) g1).2).symm, (opv_congr (cf := cf) (H := H) (pv := pv) g2).2⟩
  rw [oper_eq, (opv_congr (cf := cf) (pv := pv) g2).1, x1]
  simp only [Option.map_some, Option.some.injEq, Prod.mk.injEq, and_true]
  exact (putA_comm e u v fun d hd => (a1 d hd).2).symm
end Go.VI

/- VI, part UC: a region of open order comes to what the text's order tells. -/
set_option linter.unusedVariables false
set_option linter.unusedSimpArgs false
namespace Go.VI

structure It where
  i : Nat
  o : AOper
  nid : Nat
  fp : FP

def St (cf : CF) (pv : AV → List AV → Bool) (x : It) (s s' : Env × Heap) : Prop := oper cf x.nid x.o s.1 s.2 = some s' ∧ fpO pv x.nid s.1 x.o = x.fp
def RunL (cf : CF) (pv : AV → List AV → Bool) : List It → Env × Heap → Env × Heap → Prop
  | [], s, s' => s = s'
  | x :: r, s, s' => ∃ s1, St cf pv x s s1 ∧ RunL cf pv r s1 s'
def NidsLt (L : List It) (n : Nat) : Prop := ∀ x ∈ L, allocA x.o.op = true → x.nid < n

theorem St.next {cf : CF} {pv : AV → List AV → Bool} (hcp : CfPure cf pv) {x : It} {s s' : Env × Heap} (h : St cf pv x s s') : s.2.next ≤ s'.2.next := by
  obtain ⟨h, _⟩ := h
  rw [oper_eq, Option.map_eq_some_iff] at h
  obtain ⟨⟨v, K⟩, h, rfl⟩ := h
  exact opv_next hcp h

/-- One that meets none of those before it may come first. -/
theorem front {cf : CF} {pv : AV → List AV → Bool} (hcp : CfPure cf pv) {y : It} {B : List It} {s' : Env × Heap} : ∀ (A : List It) (s : Env × Heap), NidsLt (A ++ y :: B) s.2.next →
    (∀ x ∈ A, apartA x.o y.o = true ∧ compat x.fp y.fp = true) → RunL cf pv (A ++ y :: B) s s' → ∃ s1, St cf pv y s s1 ∧ RunL cf pv (A ++ B) s1 s'
  | [], s, _, _, h => h
  | x :: A, s, hn, hc, h => by
    obtain ⟨s1, hx, h⟩ := h
    have hle := hx.next hcp
    obtain ⟨s2, hy, hr⟩ := front hcp A s1 (fun z hz ha => Nat.lt_of_lt_of_le (hn z (List.mem_cons_of_mem _ hz) ha) hle) (fun z hz => hc z (List.mem_cons_of_mem _ hz)) h
    obtain ⟨c1, c2⟩ := hc x List.mem_cons_self
    obtain ⟨x1, x2⟩ := hx
    obtain ⟨y1, y2⟩ := hy
    have := oper_swap hcp (pv := pv) (x := x.o) (y := y.o) (e := s.1) (H := s.2) (e1 := s1.1) (H1 := s1.2) (e2 := s2.1) (H2 := s2.2) c1 (by rw [x2, y2]; exact c2) x1 y1 (hn x List.mem_cons_self)
      (fun ha => Nat.lt_of_lt_of_le (hn y (by simp) ha) hle)
    obtain ⟨e1', H1', b1, b2, b3, b4⟩ := this
    exact ⟨(e1', H1'), ⟨b1, by rw [b3]; exact y2⟩, s2, ⟨b2, by rw [b4]; exact x2⟩, hr⟩

/-! ### from the text's run -/
def itemsOf : Nat → Nat → List AOper → List FP → List It
  | _, _, [], _ => []
  | i, nid, o :: os, fs => ⟨i, o, nid, fs.headD none⟩ :: itemsOf (i + 1) (nid + nAl o) os fs.tail
theorem runs_RunL {cf : CF} {pv : AV → List AV → Bool} : ∀ (os : List AOper) (i nid : Nat) (e e' : Env) (H H' : Heap) (fs : List FP), runs cf pv nid os e H = some (fs, e', H') → RunL cf pv (itemsOf i nid os fs) (e, H) (e', H') ∧ fs.length = os.length
  | [], i, nid, e, e', H, H', fs, h => by
    simp only [runs, Option.some.injEq, Prod.mk.injEq] at h
    obtain ⟨rfl, rfl, rfl⟩ := h
    exact ⟨rfl, rfl⟩
  | o :: os, i, nid, e, e', H, H', fs, h => by
    simp only [runs, Option.bind_eq_some_iff, Option.map_eq_some_iff, Prod.mk.injEq] at h
    obtain ⟨⟨e1, H1⟩, h1, ⟨gs, e2, H2⟩, h2, rfl, rfl, rfl⟩ := h
    obtain ⟨a, b⟩ := runs_RunL os (i + 1) (nid + nAl o) e1 e2 H1 H2 gs h2
    exact ⟨⟨(e1, H1), ⟨h1, rfl⟩, a⟩, by simp [b]⟩
theorem items_spec : ∀ (os : List AOper) (i nid : Nat) (fs : List FP) (x : It), x ∈ itemsOf i nid os fs → i ≤ x.i ∧ os[x.i - i]? = some x.o ∧ x.fp = fs.getD (x.i - i) none ∧ nid ≤ x.nid ∧ (allocA x.o.op = true → x.nid < nid + nAls os)
  | [], i, nid, fs, x, h => by cases h
  | o :: os, i, nid, fs, x, h => by
    simp only [itemsOf, List.mem_cons] at h
    rcases h with rfl | h
    · refine ⟨Nat.le_refl _, by simp, ?_, Nat.le_refl _, fun ha => ?_⟩
      · cases fs <;> simp
      · simp only [nAls, List.map_cons, List.sum_cons, nAl]
        rw [if_pos ha]
        omega
    · obtain ⟨a, b, c, d, e⟩ := items_spec os (i + 1) (nid + nAl o) fs.tail x h
      refine ⟨by omega, ?_, ?_, by omega, fun ha => ?_⟩
      · rw [show x.i - i = (x.i - (i + 1)) + 1 by omega]
        simpa using b
      · rw [c, show x.i - i = (x.i - (i + 1)) + 1 by omega]
        cases fs <;> simp
      · have := e ha
        simp only [nAls, List.map_cons, List.sum_cons] at this ⊢
        omega
theorem items_idx : ∀ (os : List AOper) (i nid : Nat) (fs : List FP), (itemsOf i nid os fs).map (·.i) = List.range' i os.length
  | [], i, nid, fs => rfl
  | o :: os, i, nid, fs => by
    simp only [itemsOf, List.map_cons, List.length_cons, List.range'_succ]
    rw [items_idx os (i + 1) (nid + nAl o) fs.tail]
/-- Who takes a number takes one of its own. -/
theorem items_nid : ∀ (os : List AOper) (i nid : Nat) (fs : List FP) (x y : It), x ∈ itemsOf i nid os fs → y ∈ itemsOf i nid os fs → x.i < y.i → allocA x.o.op = true → x.nid < y.nid
  | [], i, nid, fs, x, y, h, _, _, _ => by cases h
  | o :: os, i, nid, fs, x, y, hx, hy, hlt, ha => by
    simp only [itemsOf, List.mem_cons] at hx hy
    rcases hx with rfl | hx
    · rcases hy with rfl | hy
      · omega
      · have := (items_spec os (i + 1) (nid + nAl o) fs.tail y hy).2.2.2.1
        have h1 : nAl o = 1 := by simp only [nAl]; rw [if_pos ha]
        show nid < y.nid
        omega
    · rcases hy with rfl | hy
      · have := (items_spec os (i + 1) (nid + nAl o) fs.tail x hx).1
        simp at hlt
        omega
      · exact items_nid os (i + 1) (nid + nAl o) fs.tail x y hx hy hlt ha

/-! ### classes -/
theorem fp_cls {pv : AV → List AV → Bool} {nid : Nat} {e : Env} {o : AOper} : (clsA o.op = 0 → fpO pv nid e o = some (false, [])) ∧ (clsA o.op = 1 → ∃ T, fpO pv nid e o = some (false, T)) ∧
    (clsA o.op = 2 → allocA o.op = true ∧ (fpO pv nid e o = some (true, [nid]) ∨ fpO pv nid e o = some (false, []))) := by
  unfold fpO
  by_cases hw : wantA e o.guard = true
  · rw [if_pos hw]
    cases o.op <;> simp [clsA, fpS, allocA]
  · rw [if_neg hw]
    refine ⟨fun _ => rfl, fun _ => ⟨_, rfl⟩, fun h => ⟨?_, .inr rfl⟩⟩
    revert h
    cases o.op <;> simp [clsA, allocA]
theorem compat_nil_l (w : Bool) (f : FP) : compat (some (w, [])) f = true := by simp [compat]
theorem compat_nil_r (w : Bool) (f : FP) : compat f (some (w, [])) = true := by
  unfold compat
  split <;> simp_all
theorem clash_compat {pv : AV → List AV → Bool} {nx ny : Nat} {e e2 : Env} {x y : AOper} (hn : allocA x.op = true → allocA y.op = true → nx ≠ ny) (h : clash (clsA x.op) (clsA y.op) = false) : compat (fpO pv nx e x) (fpO pv ny e2 y) = true := by
  obtain ⟨a0, a1, a2⟩ := fp_cls (pv := pv) (nid := nx) (e := e) (o := x)
  obtain ⟨b0, b1, b2⟩ := fp_cls (pv := pv) (nid := ny) (e := e2) (o := y)
  unfold clash at h
  split at h
  · rw [a0 ‹_›]; exact compat_nil_l _ _
  · rw [b0 ‹_›]; exact compat_nil_r _ _
  · obtain ⟨T, hT⟩ := a1 ‹_›
    obtain ⟨U, hU⟩ := b1 ‹_›
    rw [hT, hU]
    unfold compat
    split <;> simp_all
  · obtain ⟨p1, p2⟩ := a2 ‹_›
    obtain ⟨q1, q2⟩ := b2 ‹_›
    rcases p2 with p2 | p2
    · rcases q2 with q2 | q2
      · rw [p2, q2]
        have := hn p1 q1
        simp [compat, this]
      · rw [q2]; exact compat_nil_r _ _
    · rw [p2]; exact compat_nil_l _ _
  · cases h

theorem pairsAt_spec {os : List AOper} {bf : List Nat} {j : Nat} {y : AOper} : ∀ (r : List AOper) (i : Nat) (ps : List (Nat × Nat)), pairsAt os bf j y i r = some ps → ∀ (k : Nat) (x : AOper), r[k]? = some x → i + k < j →
    (bf.getD j 0).testBit (i + k) = true ∨ (apartA x y = true ∧ (clash (clsA x.op) (clsA y.op) = true → (i + k, j) ∈ ps))
  | [], i, ps, h, k, x, hx, hk => by simp at hx
  | z :: r, i, ps, h, k, x, hx, hk => by
    simp only [pairsAt, Option.bind_eq_some_iff] at h
    obtain ⟨qs, hq, h⟩ := h
    have ih := pairsAt_spec r (i + 1) qs hq
    have sub : ∀ q ∈ qs, q ∈ ps := fun q hq => by
      split at h
      · cases h; exact hq
      · split at h
        · cases h; exact hq
        · split at h
          · split at h
            · cases h; exact List.mem_cons_of_mem _ hq
            · cases h; exact hq
          · cases h
    cases k with
    | zero =>
      simp only [List.getElem?_cons_zero, Option.some.injEq] at hx
      subst hx
      rw [Nat.add_zero] at hk ⊢
      rw [if_neg (by omega)] at h
      split at h
      · exact .inl ‹_›
      · split at h
        · rename_i hap
          refine .inr ⟨hap, fun hc => ?_⟩
          rw [if_pos hc] at h
          cases h
          exact List.mem_cons_self
        · cases h
    | succ k =>
      rw [show i + (k + 1) = i + 1 + k by omega] at hk ⊢
      exact (ih k x (by simpa using hx) hk).imp_right fun ⟨a, b⟩ => ⟨a, fun c => sub _ (b c)⟩
theorem pairsOf_spec {os : List AOper} {bf : List Nat} : ∀ (r : List AOper) (j : Nat) (ps : List (Nat × Nat)), pairsOf os bf j r = some ps → ∀ (k i : Nat) (x y : AOper), r[k]? = some y → os[i]? = some x → i < j + k →
    (bf.getD (j + k) 0).testBit i = true ∨ (apartA x y = true ∧ (clash (clsA x.op) (clsA y.op) = true → (i, j + k) ∈ ps))
  | [], j, ps, h, k, i, x, y, hy, hx, hk => by simp at hy
  | z :: r, j, ps, h, k, i, x, y, hy, hx, hk => by
    simp only [pairsOf, Option.bind_eq_some_iff, Option.map_eq_some_iff] at h
    obtain ⟨p1, h1, p2, h2, rfl⟩ := h
    cases k with
    | zero =>
      simp only [List.getElem?_cons_zero, Option.some.injEq] at hy
      subst hy
      rw [Nat.add_zero] at hk ⊢
      have := pairsAt_spec os 0 p1 h1 i x hx (by omega)
      rw [Nat.zero_add] at this
      exact this.imp_right fun ⟨a, b⟩ => ⟨a, fun c => List.mem_append_left _ (b c)⟩
    | succ k =>
      rw [show j + (k + 1) = j + 1 + k by omega] at hk ⊢
      exact (pairsOf_spec r (j + 1) p2 h2 k i x y (by simpa using hy) hx hk).imp_right fun ⟨a, b⟩ => ⟨a, fun c => List.mem_append_right _ (b c)⟩

/-! ### elder ones -/
theorem testBit_foldl (acc : List Nat) (k : Nat) : ∀ (ns : List Nat) (b : Nat), (ns.foldl (fun b i => b ||| (1 <<< i) ||| acc.getD i 0) b).testBit k = true → b.testBit k = true ∨ ∃ i ∈ ns, k = i ∨ (acc.getD i 0).testBit k = true
  | [], b, h => .inl h
  | n :: ns, b, h => by
    rcases testBit_foldl acc k ns _ h with h | ⟨i, hi, h⟩
    · simp only [Nat.testBit_or, Bool.or_eq_true, Nat.testBit_shiftLeft, Bool.and_eq_true] at h
      rcases h with (h | h) | h
      · exact .inl h
      · refine .inr ⟨n, List.mem_cons_self, .inl ?_⟩
        obtain ⟨h1, h2⟩ := h
        have h3 : k - n = 0 := Nat.testBit_one_eq_true_iff_self_eq_zero.1 h2
        have h1 := of_decide_eq_true h1
        omega
      · exact .inr ⟨n, List.mem_cons_self, .inr h⟩
    · exact .inr ⟨i, List.mem_cons_of_mem _ hi, h⟩
/-- The bits lead to ones that are needed. -/
theorem closeB_spec (D : Nat → Prop) : ∀ (r : List (List Nat)) (acc : List Nat) (all : List (List Nat)), (∀ i, i < acc.length → (∀ n ∈ all.getD i [], D n) → ∀ k, (acc.getD i 0).testBit k = true → D k) →
    (∀ i, i < all.length → D i → ∀ n ∈ all.getD i [], D n) → all.length = acc.length + r.length → (∀ i, i < r.length → all.getD (acc.length + i) [] = r.getD i []) →
    (∀ i, i < all.length → ∀ n ∈ all.getD i [], n < i) →
    ∀ i, i < all.length → (∀ n ∈ all.getD i [], D n) → ∀ k, ((closeB acc r).getD i 0).testBit k = true → D k
  | [], acc, all, ha, hd, hl, hr, he, i, hi, hn, k, hk => ha i (by rw [hl] at hi; simpa using hi) hn k hk
  | ns :: r, acc, all, ha, hd, hl, hr, he, i, hi, hn, k, hk => by
    refine closeB_spec D r (acc ++ [bitsOf acc ns]) all (fun j hj hjn q hq => ?_) hd (by simp [hl]; omega) (fun j hj => ?_) he i hi hn k hk
    · simp only [List.length_append, List.length_cons, List.length_nil] at hj
      rcases Nat.lt_or_ge j acc.length with h | h
      · rw [List.getD_eq_getElem?_getD, List.getElem?_append_left h, ← List.getD_eq_getElem?_getD] at hq
        exact ha j h hjn q hq
      · have : j = acc.length := by omega
        subst this
        rw [List.getD_eq_getElem?_getD, List.getElem?_append_right (Nat.le_refl _)] at hq
        simp only [Nat.sub_self, List.getElem?_cons_zero, Option.getD_some, bitsOf] at hq
        have hns : all.getD acc.length [] = ns := by
          have := hr 0 (by simp)
          simpa using this
        rcases testBit_foldl acc q ns 0 hq with h0 | ⟨n, hn', h0⟩
        · simp at h0
        · have hDn : D n := hjn n (by rw [hns]; exact hn')
          rcases h0 with rfl | h0
          · exact hDn
          · have hlt : n < acc.length := he acc.length (by rw [hl]; simp) n (by rw [hns]; exact hn')
            exact ha n hlt (hd n (by omega) hDn) q h0
    · have := hr (j + 1) (by simp; omega)
      simp only [List.length_append, List.length_cons, List.length_nil]
      rw [show acc.length + (0 + 1) + j = acc.length + (j + 1) by omega, this]
      simp
theorem elder_spec : ∀ (r : List (List Nat)) (i : Nat), elder i r = true → ∀ k, k < r.length → ∀ n ∈ r.getD k [], n < i + k
  | [], i, _, k, hk, _, _ => by simp at hk
  | ns :: r, i, h, k, hk, n, hn => by
    simp only [elder, Bool.and_eq_true, List.all_eq_true, decide_eq_true_eq] at h
    cases k with
    | zero => exact h.1 n (by simpa using hn)
    | succ k =>
      have := elder_spec r (i + 1) h.2 k (by simpa using hk) n (by simpa using hn)
      omega
end Go.VI

/- VI, part UE: the game of a region of open order. -/
set_option linter.unusedVariables false
set_option linter.unusedSimpArgs false
namespace Go.VI

theorem mapM_get {α β : Type} {f : α → Option β} : ∀ {l : List α} {r : List β}, l.mapM f = some r → r.length = l.length ∧ ∀ (i : Nat) (x : α) (y : β), l[i]? = some x → r[i]? = some y → f x = some y
  | [], r, h => by simp at h; subst h; simp
  | x :: l, r, h => by
    simp only [List.mapM_cons, Option.bind_eq_bind, Option.bind_eq_some_iff] at h
    obtain ⟨y, hy, ys, hys, h⟩ := h
    cases h
    obtain ⟨h1, h2⟩ := mapM_get hys
    refine ⟨by simp [h1], fun i p q hp hq => ?_⟩
    cases i with
    | zero => simp at hp hq; subst hp; subst hq; exact hy
    | succ i => exact h2 i p q (by simpa using hp) (by simpa using hq)

theorem mem_needs {o : Oper} {n : Nat} : n ∈ needs o ↔ ∃ e ∈ o.after, Region.binds .any e = true ∧ e.on = n := by
  simp only [needs, List.mem_filterMap, Array.mem_toList_iff]
  constructor
  · rintro ⟨e, he, h⟩
    split at h
    · cases h
      exact ⟨e, he, ‹_›, rfl⟩
    · cases h
  · rintro ⟨e, he, h, rfl⟩
    exact ⟨e, he, by rw [if_pos h]⟩
def needsL (ops : Array Oper) : List (List Nat) := ops.toList.map needs
theorem needsL_at {ops : Array Oper} {i : Nat} {o : Oper} (h : ops[i]? = some o) : (needsL ops).getD i [] = needs o := by
  simp [needsL, List.getD_eq_getElem?_getD, h]

/-- What the items of a region are. -/
structure Full (ops : Array Oper) (os : List AOper) (L0 : List It) (base : Nat) : Prop where
  at_ : ∀ x ∈ L0, os[x.i]? = some x.o ∧ base ≤ x.nid
  pair : ∀ x ∈ L0, ∀ y ∈ L0, x.i < y.i → ((befores ops).getD y.i 0).testBit x.i = true ∨ (apartA x.o y.o = true ∧ compat x.fp y.fp = true)
  nid : ∀ x ∈ L0, ∀ y ∈ L0, x.i < y.i → allocA x.o.op = true → x.nid < y.nid
  elder : elder 0 (needsL ops) = true

theorem game {P : Program} {cf : CF} {pv : AV → List AV → Bool} (hcf : CfOk P cf) (hcp : CfPure cf pv) {ops : Array Oper} {os : List AOper} (hc : ops.toList.mapM (compOper P ops) = some os) {L0 : List It} {base : Nat} (G : Full ops os L0 base)
    {m0 : Mp} {F0 : Fz} {w0 : World} {e' : Env} {H' : Heap} {Q : Exit → Act → World → Prop}
    (hq : ∀ a' w' m' F', Sit m' F' H' w' e' a' → Ext m0 F0 w0 m' F' w' → a'.defers = [] → Grew base m0 m' H' → Q .normal a' w') :
    ∀ (fuel : Nat) (L : List It) (listed : Array Bool) (m : Mp) (F : Fz) (H : Heap) (w : World) (e : Env) (a : Act), Sit m F H w e a → a.defers = [] → Ext m0 F0 w0 m F w → Grew base m0 m H → RunL cf pv L (e, H) (e', H') →
      NidsLt L H.next → (∀ x ∈ L, allocA x.o.op = true → m x.nid = none) → (∀ x ∈ L, x ∈ L0) → L.Pairwise (fun x y => x.i < y.i) → (∀ i, listed.getD i true = false ↔ ∃ x ∈ L, x.i = i) → listed.size = ops.size →
      (∀ i, i < ops.size → listed.getD i true = true → ∀ n ∈ (needsL ops).getD i [], listed.getD n true = true) → L.length ≤ fuel → wpAny P .any ops Q fuel listed a w := by
  obtain ⟨hl, hget⟩ := mapM_get hc
  have hel : ∀ i, i < ops.size → ∀ n ∈ (needsL ops).getD i [], n < i := fun i hi n hn => by
    have := elder_spec (needsL ops) 0 G.elder i (by simpa [needsL] using hi) n hn
    omega
  have hopat : ∀ x ∈ L0, ∃ o, ops[x.i]? = some o ∧ compOper P ops o = some x.o := fun x hx => by
    have h1 := (G.at_ x hx).1
    have h2 : x.i < ops.size := by
      have := (List.getElem?_eq_some_iff.1 h1).1
      rw [hl] at this
      simpa using this
    exact ⟨ops[x.i], by simp [h2], hget x.i _ _ (by simp [h2]) h1⟩
  intro fuel
  induction fuel with
  | zero =>
    intro L listed m F H w e a hs hd hE hG hr hn hf hL hp hi hsz hdn hlen
    have : L = [] := List.eq_nil_of_length_eq_zero (by omega)
    subst this
    cases hr
    refine ⟨?_, hq a w m F hs hE hd hG⟩
    rw [List.eq_nil_iff_forall_not_mem]
    intro i hi'
    obtain ⟨x, hx, _⟩ := (hi i).1 (mem_ready.1 hi').1
    cases hx
  | succ fuel ih =>
    intro L listed m F H w e a hs hd hE hG hr hn hf hL hp hi hsz hdn hlen
    refine ⟨fun hempty => ?_, fun i hrd => ?_⟩
    · cases L with
      | nil => cases hr; exact hq a w m F hs hE hd hG
      | cons x r =>
        exfalso
        have hx0 := hL x List.mem_cons_self
        obtain ⟨o, ho, _⟩ := hopat x hx0
        have hxs := (Array.getElem?_eq_some_iff.1 ho).1
        have : x.i ∈ Region.ready .any ops listed := mem_ready.2 ⟨(hi x.i).2 ⟨x, List.mem_cons_self, rfl⟩, o, ho, fun ed he hb => by
          have hlt := hel x.i hxs ed.on (by rw [needsL_at ho]; exact mem_needs.2 ⟨ed, he, hb, rfl⟩)
          have h1 : listed.getD ed.on true = true := by
            cases hh : listed.getD ed.on true with
            | true => rfl
            | false =>
              obtain ⟨z, hz, hzi⟩ := (hi ed.on).1 hh
              rcases List.mem_cons.1 hz with rfl | hz
              · omega
              · have := List.rel_of_pairwise_cons hp hz
                omega
          have h2 : ed.on < listed.size := by omega
          simpa [h2] using h1⟩
        rw [hempty] at this
        cases this
    · obtain ⟨hun, o, ho, hall⟩ := mem_ready.1 hrd
      obtain ⟨y, hy, rfl⟩ := (hi i).1 hun
      obtain ⟨A, B, rfl⟩ := List.append_of_mem hy
      have hy0 := hL y hy
      have hys := (Array.getElem?_eq_some_iff.1 ho).1
      rw [List.pairwise_append] at hp
      obtain ⟨hpA, hpB, hpAB⟩ := hp
      have hAlt : ∀ x ∈ A, x.i < y.i := fun x hx => hpAB x hx y List.mem_cons_self
      have hBlt : ∀ x ∈ B, y.i < x.i := fun x hx => List.rel_of_pairwise_cons hpB hx
      have hready : ∀ n ∈ (needsL ops).getD y.i [], listed.getD n true = true := fun n hn' => by
        rw [needsL_at ho] at hn'
        obtain ⟨ed, he, hb, rfl⟩ := mem_needs.1 hn'
        have h1 := hall ed he hb
        have h2 : ed.on < listed.size := by
          have := hel y.i hys ed.on (by rw [needsL_at ho]; exact hn')
          omega
        simpa [h2] using h1
      have hA : ∀ x ∈ A, apartA x.o y.o = true ∧ compat x.fp y.fp = true := fun x hx => by
        rcases G.pair x (hL x (by simp [hx])) y hy0 (hAlt x hx) with hb | hb
        · exfalso
          have := closeB_spec (fun n => listed.getD n true = true) (needsL ops) [] (needsL ops) (fun i hi => by simp at hi) (fun i hi' hD n hn' => hdn i (by simpa [needsL] using hi') hD n hn') (by simp) (fun i _ => by simp)
            (fun i hi' => hel i (by simpa [needsL] using hi')) y.i (by simpa [needsL] using hys) hready x.i hb
          have h0 := (hi x.i).2 ⟨x, by simp [hx], rfl⟩
          rw [h0] at this
          cases this
        · exact hb
      obtain ⟨⟨e1, H1⟩, ⟨hst, _⟩, hrest⟩ := front hcp A (e, H) hn hA hr
      obtain ⟨o', ho', hco⟩ := hopat y hy0
      rw [ho] at ho'
      cases ho'
      have hsnd := oper_sound hcf hco (nid := y.nid) (fun ha => ⟨hf y hy ha, Nat.le_of_lt (hn y hy ha)⟩) hs hd hst (Q := Q)
        (next := wpAny P .any ops Q fuel (listed.setIfInBounds y.i true)) (fun a' w' m' F' hs' hE' hd' hD => by
          have hmem : ∀ x, x ∈ A ++ B → x ∈ A ++ y :: B := fun x hx => by
            rcases List.mem_append.1 hx with h | h
            · exact List.mem_append_left _ h
            · exact List.mem_append_right _ (List.mem_cons_of_mem _ h)
          have hne : ∀ x ∈ A ++ B, x.i ≠ y.i := fun x hx => by
            rcases List.mem_append.1 hx with h | h
            · have := hAlt x h; omega
            · have := hBlt x h; omega
          refine ih (A ++ B) (listed.setIfInBounds y.i true) m' F' H1 w' e1 a' hs' hd' (hE.trans hE') ⟨fun id mb hm => ?_, Nat.le_trans hG.le hD.le⟩ hrest
            (fun x hx ha => Nat.lt_of_lt_of_le (hn x (hmem x hx) ha) hD.le) (fun x hx ha => ?_) (fun x hx => hL x (hmem x hx)) ?_ (fun j => ?_) (by simp [hsz]) (fun j hj hlj n hn' => ?_) (by simp at hlen ⊢; omega)
          · rcases hD.dom id mb hm with h | h | h
            · exact hG.dom id mb h
            · unfold alOf at h
              split at h
              · cases h; exact .inr (G.at_ y hy0).2
              · cases h
            · exact .inr (Nat.le_trans hG.le h)
          · cases hm : m' x.nid with
            | none => rfl
            | some mb =>
              exfalso
              rcases hD.dom _ _ hm with h | h | h
              · rw [hf x (hmem x hx) ha] at h
                cases h
              · unfold alOf at h
                split at h
                · rename_i hay
                  injection h with h
                  rcases Nat.lt_or_gt_of_ne (hne x hx) with h2 | h2
                  · have := G.nid x (hL x (hmem x hx)) y hy0 h2 ha
                    omega
                  · have := G.nid y hy0 x (hL x (hmem x hx)) h2 hay
                    omega
                · cases h
              · have := hn x (hmem x hx) ha
                have h' : H.next ≤ x.nid := h
                omega
          · rw [List.pairwise_append]
            exact ⟨hpA, (List.pairwise_cons.1 hpB).2, fun x hx z hz => hpAB x hx z (List.mem_cons_of_mem _ hz)⟩
          · have hyl : y.i < listed.size := by omega
            by_cases hj : j = y.i
            · subst hj
              constructor
              · intro h
                simp [hyl] at h
              · rintro ⟨x, hx, hxi⟩
                exact absurd hxi (hne x hx)
            · have h1 : (listed.setIfInBounds y.i true).getD j true = listed.getD j true := by
                simp only [Array.getD_eq_getD_getElem?]
                rw [Array.getElem?_setIfInBounds_ne (Ne.symm hj)]
              rw [h1, hi j]
              constructor
              · rintro ⟨x, hx, rfl⟩
                refine ⟨x, ?_, rfl⟩
                rcases List.mem_append.1 hx with h | h
                · exact List.mem_append_left _ h
                · rcases List.mem_cons.1 h with rfl | h
                  · exact absurd rfl hj
                  · exact List.mem_append_right _ h
              · rintro ⟨x, hx, rfl⟩
                exact ⟨x, hmem x hx, rfl⟩
          · have mono : ∀ q, listed.getD q true = true → (listed.setIfInBounds y.i true).getD q true = true := fun q hq => by
              by_cases hqy : q = y.i
              · subst hqy
                have hyl : y.i < listed.size := by omega
                simp [hyl]
              · simp only [Array.getD_eq_getD_getElem?] at hq ⊢
                rw [Array.getElem?_setIfInBounds_ne (Ne.symm hqy)]
                exact hq
            by_cases hj' : j = y.i
            · subst hj'
              exact mono n (hready n hn')
            · refine mono n (hdn j hj ?_ n hn')
              simp only [Array.getD_eq_getD_getElem?] at hlj ⊢
              rwa [Array.getElem?_setIfInBounds_ne (Ne.symm hj')] at hlj)
      unfold wpOp
      simp only [ho]
      split
      · rename_i hw
        rw [if_pos hw] at hsnd
        exact .inl hsnd
      · rename_i hw
        rw [if_neg hw] at hsnd
        exact hsnd

theorem Inv.drew {m : Mp} {F : Fz} {H : Heap} {w : World} (h : Inv m F H w) (n : Nat) : Inv m F H { w with drawn := n } :=
  ⟨h.fz, h.lt, fun id mb B h1 h2 => by
    have := h.blk id mb B h1 h2
    cases B <;> exact this, h.inj⟩
theorem live_pad {H : Heap} {n id : Nat} (h : live (H.pad n) id) (hl : id < H.next) : live H id := by
  obtain ⟨B, h1, h2⟩ := h
  rw [Heap.get_pad _ _ _ hl] at h1
  exact ⟨B, h1, h2⟩
theorem Inv.pad {m : Mp} {F : Fz} {H : Heap} {w : World} (h : Inv m F H w) (n : Nat) : Inv m F (H.pad n) w :=
  ⟨h.fz, fun id mb hm => by
    have := h.lt id mb hm
    rw [Heap.next_pad]
    omega, fun id mb B hm hB => by
    rw [Heap.get_pad _ _ _ (h.lt id mb hm).1] at hB
    exact h.blk id mb B hm hB, fun i j mi mj hi hj li lj e => h.inj i j mi mj hi hj (live_pad li (h.lt _ _ hi).1) (live_pad lj (h.lt _ _ hj).1) e⟩

theorem drawn_sound {P : Program} (hP : P.follows .mixedOrders = true) {cf : CF} {pv : AV → List AV → Bool} (hcf : CfOk P cf) (hcp : CfPure cf pv) {ops : Array Oper} {os : List AOper} (hc : ops.toList.mapM (compOper P ops) = some os)
    {prs : List (Nat × Nat)} (hprs : prsOf ops os = some prs) {m : Mp} {F : Fz} {H H' : Heap} {w : World} {e e' : Env} {a : Act} (hs : Sit m F H w e a) (hd : a.defers = [])
    (h : drawn cf pv os prs e H = some (e', H')) (id : Nat) {Q : Exit → Act → World → Prop}
    (hq : ∀ a' w' m' F', Sit m' F' H' w' e' a' → Ext m F w m' F' w' → a'.defers = [] → Grew H.next m m' H' → Q .normal a' w') : (Code.region id ops true).wp P Q a w := by
  simp only [drawn, Option.bind_eq_some_iff] at h
  obtain ⟨⟨fs, e2, H2⟩, hrun, h⟩ := h
  split at h
  rotate_left
  · cases h
  rename_i hall
  simp only [Option.some.injEq, Prod.mk.injEq] at h
  obtain ⟨rfl, rfl⟩ := h
  unfold prsOf at hprs
  split at hprs
  rotate_left
  · cases hprs
  rename_i hel
  obtain ⟨hR, hfl⟩ := runs_RunL os 0 H.next e e2 (H.pad (nAls os)) H2 fs hrun
  obtain ⟨hl, hget⟩ := mapM_get hc
  have hlen : os.length = ops.size := by rw [hl]; simp
  rw [List.all_eq_true] at hall
  -- the footprints of two operations, once more
  have hfp : ∀ x ∈ itemsOf 0 H.next os fs, ∃ e0, x.fp = fpO pv x.nid e0 x.o := by
    have key : ∀ (L : List It) (s s' : Env × Heap), RunL cf pv L s s' → ∀ x ∈ L, ∃ e0, x.fp = fpO pv x.nid e0 x.o := by
      intro L
      induction L with
      | nil => intro s s' _ x hx; cases hx
      | cons y L ih =>
        intro s s' hr x hx
        obtain ⟨s1, ⟨_, hy⟩, hr⟩ := hr
        rcases List.mem_cons.1 hx with rfl | hx
        · exact ⟨s.1, hy.symm⟩
        · exact ih s1 s' hr x hx
    exact key _ _ _ hR
  have G : Full ops os (itemsOf 0 H.next os fs) H.next := by
    refine ⟨fun x hx => ?_, fun x hx y hy hlt => ?_, fun x hx y hy hlt ha => items_nid _ _ _ _ x y hx hy hlt ha, hel⟩
    · obtain ⟨_, b, _, d, _⟩ := items_spec _ _ _ _ x hx
      exact ⟨by simpa using b, d⟩
    · obtain ⟨_, bx, cx, _, _⟩ := items_spec _ _ _ _ x hx
      obtain ⟨_, by_, cy, _, _⟩ := items_spec _ _ _ _ y hy
      have := pairsOf_spec os 0 prs hprs y.i x.i x.o y.o (by simpa using by_) (by simpa using bx) (by omega)
      rw [Nat.zero_add] at this
      refine this.imp_right fun ⟨h1, h2⟩ => ⟨h1, ?_⟩
      by_cases hcl : clash (clsA x.o.op) (clsA y.o.op) = true
      · have := hall _ (h2 hcl)
        rw [cx, cy]
        simpa using this
      · obtain ⟨ex, hx1⟩ := hfp x hx
        obtain ⟨ey, hy1⟩ := hfp y hy
        rw [hx1, hy1]
        refine clash_compat (fun ha _ => ?_) (by simpa using hcl)
        have := items_nid _ _ _ _ x y hx hy hlt ha
        omega
  apply wp_region_any hP
  have hidx := items_idx os 0 H.next fs
  refine game hcf hcp hc G (m0 := m) (F0 := F) (w0 := w) hq ops.size (itemsOf 0 H.next os fs) (Array.replicate ops.size false) m F (H.pad (nAls os)) _ e a ⟨(hs.inv.pad _).drew _, hs.env⟩ hd
    ⟨MLe.refl m, FLe.refl F, Nat.le_refl _, rfl, rfl, rfl, fun _ _ _ => rfl, fun _ _ h => .inl h, fun _ _ _ h => .inl h⟩ ⟨fun _ _ h => .inl h, by rw [Heap.next_pad]; omega⟩ hR
    (fun x hx ha => by rw [Heap.next_pad]; exact (items_spec _ _ _ _ x hx).2.2.2.2 ha) (fun x hx ha => ?_) (fun x hx => hx) ?_ (fun i => ?_) (by simp) (fun i hi hli => ?_) ?_
  · have := (items_spec _ _ _ _ x hx).2.2.2.1
    cases hm : m x.nid with
    | none => rfl
    | some mb =>
      have := (hs.inv.lt _ _ hm).1
      omega
  · have : ((itemsOf 0 H.next os fs).map (·.i)).Pairwise (· < ·) := by
      rw [hidx]
      exact List.pairwise_lt_range'
    rw [List.pairwise_map] at this
    exact this
  · have : i ∈ (itemsOf 0 H.next os fs).map (·.i) ↔ i < ops.size := by
      rw [hidx, List.mem_range', ← hlen]
      constructor
      · rintro ⟨k, hk, rfl⟩; omega
      · intro hi; exact ⟨i, hi, by omega⟩
    rw [List.mem_map] at this
    rw [this]
    constructor
    · intro h
      apply Classical.byContradiction
      intro hn
      simp [hn] at h
    · intro h
      simp [h]
  · simp [hi] at hli
  · have : (itemsOf 0 H.next os fs).length = os.length := by
      have := congrArg List.length hidx
      simpa using this
    omega
end Go.VI

/- VI, part V: the interpreter is sound. -/
set_option linter.unusedVariables false
set_option linter.unusedSimpArgs false
namespace Go.VI

section
variable {P : Program}

theorem opers_sound {cf : CF} (hcf : CfOk P cf) {ops : Array Oper} {os : List AOper} (hc : ops.toList.mapM (compOper P ops) = some os) {Q : Exit → Act → World → Prop} : ∀ (n k : Nat) (m : Mp) (F : Fz) (H H' : Heap) (w : World) (e e' : Env) (a : Act),
    n + k = ops.size → Sit m F H w e a → a.defers = [] → opers cf (os.drop k) e H = some (e', H') → (∀ a' w' m' F', Sit m' F' H' w' e' a' → Ext m F w m' F' w' → a'.defers = [] → Grew H.next m m' H' → Q .normal a' w') →
    wpOps P ops Q (List.range' k n) a w := by
  obtain ⟨hl, hget⟩ := mapM_get hc
  intro n
  induction n with
  | zero =>
    intro k m F H H' w e e' a hnk hs hd h hq
    have : os.drop k = [] := by apply List.drop_eq_nil_of_le; rw [hl]; simp; omega
    rw [this] at h
    simp [opers] at h
    obtain ⟨rfl, rfl⟩ := h
    exact hq a w m F hs (Ext.refl m F w) hd (Grew.refl m H)
  | succ n ih =>
    intro k m F H H' w e e' a hnk hs hd h hq
    have hk : k < ops.size := by omega
    have hko : k < os.length := by rw [hl]; simpa using hk
    rw [List.drop_eq_getElem_cons hko] at h
    simp only [opers, Option.bind_eq_some_iff] at h
    obtain ⟨⟨e1, H1⟩, h1, h⟩ := h
    have hok : ops[k]? = some ops[k] := Array.getElem?_eq_getElem hk
    have hco := hget k ops[k] os[k] (by simp [hk]) (List.getElem?_eq_getElem hko)
    rw [List.range'_succ]
    simp only [wpOps, hok]
    have := oper_sound hcf hco (fun _ => hs.inv.free) hs hd h1 (next := wpOps P ops Q (List.range' (k + 1) n)) (Q := Q) (fun a' w' m' F' hs' hE hd' hG => ih (k + 1) m' F' H1 H' w' e1 e' a' (by omega) hs' hd' h (fun a'' w'' m'' F'' s'' E'' d'' G'' => hq a'' w'' m'' F'' s'' (hE.trans E'') d'' (hG.grew.trans G'')))
    split
    · rename_i hw
      rw [if_pos hw] at this
      exact .inl this
    · rename_i hw
      rw [if_neg hw] at this
      exact this

theorem region_sound {cf : CF} (hcf : CfOk P cf) {ops : Array Oper} {os : List AOper} (hc : ops.toList.mapM (compOper P ops) = some os) {m : Mp} {F : Fz} {H H' : Heap} {w : World} {e e' : Env} {a : Act} (hs : Sit m F H w e a) (hd : a.defers = [])
    (h : opers cf os e H = some (e', H')) (id : Nat) : (Code.region id ops false).wp P (CodePost m F H w .normal e' H') a w := by
  apply wp_region
  rw [List.range_eq_range']
  exact opers_sound hcf hc ops.size 0 m F H H' w e e' a (by omega) hs hd (by simpa using h) (fun a' w' m' F' hs' hE hd' hG => ⟨rfl, m', F', hs', hE, hd', hG⟩)

/-! ### results -/
theorem resOf_sound {m : Mp} {F : Fz} {H : Heap} {w : World} {e : Env} {tmps : Array Value} (hI : Inv m F H w) (hE : EnvR m F e tmps) {r : ResultVar} {ar : ARes} (hc : compRes P r = some ar) {v : AV} (h : resOf H e ar = some v) :
    ∃ u, (match r with | .tmp t => (pure (tmps.getD t undef) : Sem Value) | .cell a t => (do loadVar t (← asAddr (tmps.getD a undef)))).run P w = .ok u w ∧ VR m F v u := by
  cases r with
  | tmp t =>
    simp only [compRes, Option.some.injEq] at hc
    subst hc
    simp only [resOf, Option.some.injEq] at h
    subst h
    exact ⟨_, rfl, hE.val t⟩
  | cell s t =>
    simp only [compRes, Option.bind_eq_some_iff, Option.map_eq_some_iff] at hc
    obtain ⟨g, hg, i, hi, rfl⟩ := hc
    obtain ⟨ti, z, i1, i2, rfl, _⟩ := infoA_some hi
    simp only [resOf, Option.bind_eq_some_iff] at h
    obtain ⟨cs, hcs, hp⟩ := h
    obtain ⟨ad, u, he, hr, hv⟩ := loaded hI (hE.val s) hcs hg i1 rfl hp
    refine ⟨u, ?_, hv⟩
    simp [he, asAddr, hr]

theorem mapM_run {α : Type} {f : α → Sem Value} {g : α → Option AV} {m : Mp} {F : Fz} {w : World} : ∀ (l : List α) (vs : List AV), l.mapM g = some vs → (∀ x ∈ l, ∀ v, g x = some v → ∃ u, (f x).run P w = .ok u w ∧ VR m F v u) →
    ∃ us : List Value, (l.mapM f).run P w = .ok us w ∧ us.length = vs.length ∧ ∀ (i : Nat) (c : AV), vs[i]? = some c → VR m F c (us.getD i undef)
  | [], vs, h, _ => by simp at h; subst h; exact ⟨[], rfl, rfl, by simp⟩
  | x :: l, vs, h, hf => by
    simp only [List.mapM_cons, Option.bind_eq_bind, Option.bind_eq_some_iff] at h
    obtain ⟨v, hv, vs', hvs, h⟩ := h
    cases h
    obtain ⟨u, hu, hr⟩ := hf x List.mem_cons_self v hv
    obtain ⟨us, h1, h2, h3⟩ := mapM_run l vs' hvs (fun y hy => hf y (List.mem_cons_of_mem _ hy))
    refine ⟨u :: us, ?_, by simp [h2], fun i c hc => ?_⟩
    · rw [List.mapM_cons]
      simp only [Sem.run_bind, hu, h1, Result.andThen_ok, Sem.run_pure]
    · cases i with
      | zero => simp at hc; subst hc; exact hr
      | succ i => exact h3 i c (by simpa using hc)

theorem results_sound {m : Mp} {F : Fz} {H : Heap} {w : World} {e : Env} {tmps : Array Value} (hI : Inv m F H w) (hE : EnvR m F e tmps) {fn : Func} {rs : List ARes} (hc : fn.results.toList.mapM (compRes P) = some rs) {v : AV} (h : resultsA H e rs = some v) :
    ∃ u, (results fn tmps).run P w = .ok u w ∧ VR m F v u := by
  simp only [resultsA, Option.map_eq_some_iff] at h
  obtain ⟨vs, hvs, h⟩ := h
  obtain ⟨hl, hget⟩ := mapM_get hc
  have hvs' : fn.results.toList.mapM (fun r => (compRes P r).bind (resOf H e)) = some vs := by
    clear h
    generalize fn.results.toList = l at hc hl hget
    induction l generalizing rs vs with
    | nil => simp at hc; subst hc; simpa using hvs
    | cons r l ih =>
      simp only [List.mapM_cons, Option.bind_eq_bind, Option.bind_eq_some_iff] at hc
      obtain ⟨ar, har, rs', hrs', hc⟩ := hc
      cases hc
      simp only [List.mapM_cons, Option.bind_eq_bind, Option.bind_eq_some_iff] at hvs
      obtain ⟨v, hv, vs', hvs', hvs⟩ := hvs
      cases hvs
      obtain ⟨l1, l2⟩ := mapM_get hrs'
      have := ih vs' hvs' hrs' l1 l2
      simp only [List.mapM_cons, Option.bind_eq_bind, har, Option.bind_some, hv, this]
      rfl
  obtain ⟨us, h1, h2, h3⟩ := mapM_run (P := P) (m := m) (F := F) (w := w) (f := fun r => match r with | .tmp t => (pure (tmps.getD t undef) : Sem Value) | .cell a t => (do loadVar t (← asAddr (tmps.getD a undef)))) fn.results.toList vs hvs' (fun r _ v hv => by
    simp only [Option.bind_eq_some_iff] at hv
    obtain ⟨ar, har, hv⟩ := hv
    exact resOf_sound hI hE har hv)
  have hrun : (results fn tmps).run P w = .ok (if h : us.toArray.size = 1 then us.toArray[0] else .tuple us.toArray) w := by
    unfold results
    rw [Array.mapM_eq_mapM_toList]
    simp only [Sem.run_bind, Sem.run_map]
    erw [h1]
    rfl
  refine ⟨_, hrun, ?_⟩
  subst h
  match vs, us, h2, h3 with
  | [], [], _, _ => exact .tup rfl (by simp)
  | [v], [u], _, h3 => exact h3 0 v rfl
  | v :: v2 :: vs, u :: u2 :: us, h2, h3 =>
    rw [dif_neg (by simp)]
    exact .tup (by simpa using h2) (fun i c hc => by simpa [List.getD_eq_getElem?_getD, Array.getD_eq_getD_getElem?] using h3 i c hc)

/-! ### the interpreter -/
theorem calls_of {ft : FT} (hft : FTOk P ft) {ex : EX}
    (hex : ∀ (c : Code) (ac : ACode), compC P c = some ac → ∀ (e e' : Env) (H H' : Heap) (x : AExit), ex ac e H = some (x, e', H') → ∀ (m : Mp) (F : Fz) (w : World) (a : Act), Sit m F H w e a → a.defers = [] → c.wp P (CodePost m F H w x e' H') a w) :
    CfOk P (callV ft ex) := by
  intro f args H H' r h m F w fv vs hI hf hv
  unfold callV at h
  split at h
  rotate_left
  · cases h
  rename_i k first caps
  obtain ⟨vf, vc, rfl, s1, s2, v1, v2⟩ := vr_fn hf
  refine ⟨k, vf, vc, rfl, ?_⟩
  have hall : VRs m F (first ++ args ++ caps) (vf ++ vs ++ vc) := by
    refine ⟨by simp [s1, s2, hv.len], fun i c hc => ?_⟩
    rcases Nat.lt_or_ge i (first.length + args.length) with h1 | h1
    · rw [List.getElem?_append_left (by simpa using h1)] at hc
      have e1 : (vf ++ vs ++ vc).getD i undef = (vf ++ vs).getD i undef := by
        simp only [Array.getD_eq_getD_getElem?]
        rw [Array.getElem?_append_left (by simp [s1, hv.len]; exact h1)]
      rw [e1]
      rcases Nat.lt_or_ge i first.length with h2 | h2
      · rw [List.getElem?_append_left h2] at hc
        have e2 : (vf ++ vs).getD i undef = vf.getD i undef := by
          simp only [Array.getD_eq_getD_getElem?]
          rw [Array.getElem?_append_left (by omega)]
        rw [e2]
        exact v1 i c hc
      · rw [List.getElem?_append_right h2] at hc
        have e2 : (vf ++ vs).getD i undef = vs.getD (i - first.length) undef := by
          simp only [Array.getD_eq_getD_getElem?]
          rw [Array.getElem?_append_right (by omega), s1]
        rw [e2]
        exact hv.val _ c hc
    · rw [List.getElem?_append_right (by simpa using h1)] at hc
      have e1 : (vf ++ vs ++ vc).getD i undef = vc.getD (i - (first ++ args).length) undef := by
        simp only [Array.getD_eq_getD_getElem?]
        rw [Array.getElem?_append_right (by simp [s1, hv.len]; exact h1)]
        simp [s1, hv.len]
      rw [e1]
      exact v2 _ c hc
  generalize first ++ args ++ caps = as at h hall
  generalize vf ++ vs ++ vc = us at hall
  clear v1 v2 s1 s2 hf hv
  unfold callF at h
  cases hk : ft k with
  | none => rw [hk] at h; cases h
  | some d =>
    have hd := hft k d hk
    rw [hk] at h
    cases d with
    | prim p =>
      simp only [Option.bind_eq_some_iff] at h
      obtain ⟨⟨r1, H1⟩, h1, h⟩ := h
      split at h
      · cases h
        exact hd as H _ _ h1 m F w us hI hall
      · cases h
    | pprim p =>
      simp only [Option.bind_eq_some_iff, Option.map_eq_some_iff, Prod.mk.injEq] at h
      obtain ⟨⟨as1, H1⟩, hz, r1, hr1, rfl, rfl⟩ := h
      obtain ⟨F1, o1, hv1⟩ := (frz_sound FZ).2 H H1 F as as1 (fun i => us.getD i undef) hz hI hall.val
      obtain ⟨hl1, _⟩ := frzL_one hz
      have back : ∀ {en : Ending} {w' : World}, CallPost m F1 H1 w r1 H1 en w' → CallPost m F H w r1 H1 en w' := fun ⟨u, m', F', h1, h2, h3, h4, h5⟩ => ⟨u, m', F', h1, h2, h3, o1.ext.trans h4, by rw [← o1.nx]; exact h5⟩
      rcases hd as1 r1 hr1 m F1 H1 w us o1.inv (by rw [hl1]; exact hall.len) hv1 with ⟨g1, g2⟩ | ⟨u, w', g1, g2⟩
      · exact .inl ⟨g1, g2.mono fun en w' hp => back hp⟩
      · exact .inr ⟨u, w', g1, back g2⟩
    | go pur n rs body =>
      obtain ⟨fn, c, g1, g2, g3, g4, g5, g6⟩ := hd
      have hcf : (callFunc k us).run P w = .ok (.enter k us) w := by
        simp only [callFunc, Sem.run_bind, run_program, Result.andThen_ok, g1, g2, g3, Bool.false_eq_true, if_false, Option.isNone_some, Sem.run_pure]
      -- the frame's slots
      have henv : ∀ (m0 : Mp) (F0 : Fz) (as0 : List AV), as0.length = us.size → (∀ (i : Nat) (c : AV), as0[i]? = some c → VR m0 F0 c (us.getD i undef)) → EnvR m0 F0 (enterE n as0) (us ++ Array.replicate (fn.ntmps - us.size) undef) := by
        intro m0 F0 as0 hl hr
        subst g5
        refine ⟨by simp [enterE, hl], fun t => ?_⟩
        rcases Nat.lt_or_ge t as0.length with h1 | h1
        · have e1 : (enterE fn.ntmps as0).getD t .bad = as0[t] := by
            unfold enterE
            rw [List.getD_eq_getElem?_getD, List.getElem?_append_left h1, List.getElem?_eq_getElem h1]
            rfl
          have e2 : (us ++ Array.replicate (fn.ntmps - us.size) undef).getD t undef = us.getD t undef := by
            simp only [Array.getD_eq_getD_getElem?]
            rw [Array.getElem?_append_left (by omega)]
          rw [e1, e2]
          exact hr t _ (List.getElem?_eq_getElem h1)
        · have e1 : (enterE fn.ntmps as0).getD t .bad = .bad := by
            unfold enterE
            rw [List.getD_eq_getElem?_getD, List.getElem?_append_right h1, List.getElem?_replicate]
            split <;> rfl
          rw [e1]
          exact .bad _
      refine .inl ⟨hcf, calls_of_wp g1 g3 ?_⟩
      cases pur with
      | false =>
        simp only [Option.bind_eq_some_iff] at h
        obtain ⟨⟨x, e1, H1⟩, h1, h⟩ := h
        split at h
        rotate_left
        · cases h
        rename_i hx
        simp only [Option.map_eq_some_iff, Prod.mk.injEq] at h
        obtain ⟨r1, hr1, rfl, rfl⟩ := h
        refine wp_mono (hex c body g4 _ e1 H H1 x h1 m F w _ ⟨hI, henv m F as hall.len.symm hall.val⟩ rfl) fun X a' w' hp => ?_
        obtain ⟨hX, m', F', hs', hE, hd', hG⟩ := hp
        obtain ⟨u, hu, hr⟩ := results_sound hs'.inv hs'.env g6 hr1
        cases x with
        | exit id => simp [leaves] at hx
        | normal => cases hX; exact ⟨hd', u, hu, u, m', F', rfl, hr, hs'.inv, hE, hG⟩
        | ret => cases hX; exact ⟨hd', u, hu, u, m', F', rfl, hr, hs'.inv, hE, hG⟩
      | true =>
        simp only [Option.bind_eq_some_iff] at h
        obtain ⟨⟨as1, H1⟩, hz, ⟨x, e1, Hc⟩, h1, h⟩ := h
        split at h
        rotate_left
        · cases h
        rename_i hx
        simp only [Option.bind_eq_some_iff, Option.map_eq_some_iff, Prod.mk.injEq] at h
        obtain ⟨r1, hr1, ⟨r2, Hc2⟩, hz2, rfl, rfl⟩ := h
        obtain ⟨F1, o1, hv1⟩ := (frz_sound FZ).2 H H1 F as as1 (fun i => us.getD i undef) hz hI hall.val
        obtain ⟨hl1, _⟩ := frzL_one hz
        have hI0 : Inv (fun _ => none) F1 Heap.empty w := ⟨o1.inv.fz, fun _ _ h => (by cases h), fun _ _ _ h _ => (by cases h), fun _ _ _ _ h _ _ _ _ => (by cases h)⟩
        refine wp_mono (hex c body g4 _ e1 Heap.empty Hc x h1 (fun _ => none) F1 w _ ⟨hI0, henv (fun _ => none) F1 as1 (by rw [hl1]; exact hall.len.symm) (fun i c hc => .fz (hv1 i c hc))⟩ rfl) fun X a' w' hp => ?_
        obtain ⟨hX, m', F', hs', hE, hd', hG⟩ := hp
        obtain ⟨u, hu, hr⟩ := results_sound hs'.inv hs'.env g6 hr1
        obtain ⟨F2, o2, hvf⟩ := (frz_sound FZ).1 Hc Hc2 F' r1 r2 u hz2 hs'.inv hr
        have hold : ∀ b, b < w.heap.size → w'.heap[b]? = w.heap[b]? := fun b hb => hE.blk b hb (fun _ _ h => by cases h)
        have hmn : ∀ id mb, m' id = some mb → w.heap.size ≤ mb.cb := fun id mb h => by
          rcases hE.mn id mb h with h | h | ⟨_, _, h, _⟩
          · cases h
          · exact h
          · cases h
        have hF2 : ∀ b o v, F2 b o = some v → F1 b o = some v ∨ w.heap.size ≤ b := fun b o v hv => by
          rcases o2.fr.new b o v hv with h | ⟨id, mb, h, rfl⟩
          · rcases hE.fn b o v h with h | h | ⟨_, _, h, _⟩
            · exact .inl h
            · exact .inr h
            · cases h
          · exact .inr (hmn id mb h)
        have hF12 : FLe F1 F2 := hE.ff.trans o2.fr.le
        have hIm : Inv m F2 H1 w' := by
          refine o1.inv.next (MLe.refl m) hF12 o2.inv.fz (fun id mb h => ?_) (fun id mb B h hB => ?_) o1.inv.inj
          · have := o1.inv.lt id mb h
            have := hE.sz
            omega
          · have hlt := (o1.inv.lt id mb h).2
            refine .inl ⟨h, hB, hold _ hlt, fun o v hv => ?_⟩
            rcases hF2 _ o v hv with h | h
            · exact h
            · omega
        have hEm : Ext m F w m F2 w' := ⟨MLe.refl m, o1.fr.le.trans hF12, hE.sz, hE.tape, hE.os, hE.out, fun b hb _ => hold b hb, fun _ _ h => .inl h, fun b o v hv => by
          rcases hF2 b o v hv with h | h
          · rcases o1.fr.new b o v h with h | h
            · exact .inl h
            · exact .inr (.inr h)
          · exact .inr (.inl h)⟩
        cases x with
        | exit id => simp [leaves] at hx
        | normal => cases hX; exact ⟨hd', u, hu, u, m, F2, rfl, .fz hvf, hIm, hEm, ⟨fun _ _ h => .inl h, Nat.le_of_eq o1.nx.symm⟩⟩
        | ret => cases hX; exact ⟨hd', u, hu, u, m, F2, rfl, .fz hvf, hIm, hEm, ⟨fun _ _ h => .inl h, Nat.le_of_eq o1.nx.symm⟩⟩

theorem execs_next {ft : FT} : ∀ (n : Nat), (∀ (c : ACode) (e e' : Env) (H H' : Heap) (x : AExit), exec ft n c e H = some (x, e', H') → H.next ≤ H'.next) ∧ CfPure (callV ft (exec ft n)) (pureV ft) := by
  have calls : ∀ (ex : EX), (∀ (c : ACode) (e e' : Env) (H H' : Heap) (x : AExit), ex c e H = some (x, e', H') → H.next ≤ H'.next) → CfPure (callV ft ex) (pureV ft) := by
    intro ex hex
    refine ⟨fun f args H v H' hp h => ?_, fun f args H v H' h => ?_⟩
    · unfold pureV at hp
      unfold callV at h ⊢
      split at h
      rotate_left
      · cases h
      rename_i k first caps
      simp only [Bool.and_eq_true] at hp ⊢
      obtain ⟨hc, hp⟩ := hp
      obtain ⟨vs', hvs⟩ := closedL_spec hc
      unfold callF at h ⊢
      split at hp
      · rename_i p n rs body hk
        simp only [hk] at h ⊢
        subst hp
        simp only [hvs, Option.bind_some] at h ⊢
        simp only [Option.bind_eq_some_iff] at h
        obtain ⟨⟨x, e1, Hc⟩, h1, h⟩ := h
        split at h
        rotate_left
        · cases h
        rename_i hx
        simp only [Option.bind_eq_some_iff, Option.map_eq_some_iff, Prod.mk.injEq] at h
        obtain ⟨r1, hr1, ⟨r2, Hc2⟩, hz2, rfl, rfl⟩ := h
        refine ⟨rfl, fun H2 => ?_⟩
        simp only [h1, Option.bind_some, if_pos hx, hr1, hz2, Option.map_some]
      · rename_i p hk
        simp only [hk] at h ⊢
        simp only [hvs, Option.bind_some, Option.map_eq_some_iff, Prod.mk.injEq] at h ⊢
        obtain ⟨r, hr, rfl, rfl⟩ := h
        exact ⟨rfl, fun H2 => ⟨r, hr, rfl, trivial⟩⟩
      · cases hp
    · unfold callV at h
      split at h
      rotate_left
      · cases h
      unfold callF at h
      split at h
      · cases h
      · simp only [Option.bind_eq_some_iff] at h
        obtain ⟨⟨r1, H1⟩, h1, h⟩ := h
        split at h
        · cases h; assumption
        · cases h
      · simp only [Option.bind_eq_some_iff, Option.map_eq_some_iff, Prod.mk.injEq] at h
        obtain ⟨⟨as1, H1⟩, hz, r1, hr1, rfl, rfl⟩ := h
        exact Nat.le_of_eq ((frz_next FZ).2 _ _ _ _ hz).symm
      · simp only [Option.bind_eq_some_iff] at h
        obtain ⟨⟨as1, H1⟩, hz, ⟨x, e1, Hc⟩, h1, h⟩ := h
        split at h
        rotate_left
        · cases h
        simp only [Option.bind_eq_some_iff, Option.map_eq_some_iff, Prod.mk.injEq] at h
        obtain ⟨r1, hr1, ⟨r2, Hc2⟩, hz2, rfl, rfl⟩ := h
        exact Nat.le_of_eq ((frz_next FZ).2 _ _ _ _ hz).symm
      · simp only [Option.bind_eq_some_iff] at h
        obtain ⟨⟨x, e1, H1⟩, h1, h⟩ := h
        split at h
        rotate_left
        · cases h
        simp only [Option.map_eq_some_iff, Prod.mk.injEq] at h
        obtain ⟨r1, hr1, rfl, rfl⟩ := h
        exact hex _ _ _ _ _ _ h1
  have ops_ : ∀ {cf : CF} {pv : AV → List AV → Bool}, CfPure cf pv → ∀ (os : List AOper) (e e' : Env) (H H' : Heap), opers cf os e H = some (e', H') → H.next ≤ H'.next := by
    intro cf pv hcp os
    induction os with
    | nil => intro e e' H H' h; simp only [opers] at h; cases h; exact Nat.le_refl _
    | cons o os ih =>
      intro e e' H H' h
      simp only [opers, Option.bind_eq_some_iff] at h
      obtain ⟨⟨e1, H1⟩, h1, h⟩ := h
      rw [oper_eq, Option.map_eq_some_iff] at h1
      obtain ⟨⟨v, K⟩, h1, h2⟩ := h1
      cases h2
      exact Nat.le_trans (opv_next hcp h1) (ih _ _ _ _ h)
  have runs_ : ∀ {cf : CF} {pv : AV → List AV → Bool}, CfPure cf pv → ∀ (os : List AOper) (nid : Nat) (e e' : Env) (H H' : Heap) (fs : List FP), runs cf pv nid os e H = some (fs, e', H') → H.next ≤ H'.next := by
    intro cf pv hcp os
    induction os with
    | nil => intro nid e e' H H' fs h; simp only [runs] at h; cases h; exact Nat.le_refl _
    | cons o os ih =>
      intro nid e e' H H' fs h
      simp only [runs, Option.bind_eq_some_iff, Option.map_eq_some_iff, Prod.mk.injEq] at h
      obtain ⟨⟨e1, H1⟩, h1, ⟨gs, e2, H2⟩, h2, rfl, rfl, rfl⟩ := h
      rw [oper_eq, Option.map_eq_some_iff] at h1
      obtain ⟨⟨v, K⟩, h1, h3⟩ := h1
      cases h3
      exact Nat.le_trans (opv_next hcp h1) (ih _ _ _ _ _ _ h2)
  intro n
  induction n with
  | zero => exact ⟨fun c e e' H H' x h => by simp [exec] at h, calls _ (fun c e e' H H' x h => by simp [exec] at h)⟩
  | succ n ih =>
    obtain ⟨ih1, ih2⟩ := ih
    have main : ∀ (c : ACode) (e e' : Env) (H H' : Heap) (x : AExit), exec ft (n + 1) c e H = some (x, e', H') → H.next ≤ H'.next := by
      intro c e e' H H' x h
      cases c with
      | skip => simp only [exec] at h; cases h; exact Nat.le_refl _
      | exit id => simp only [exec] at h; cases h; exact Nat.le_refl _
      | ret => simp only [exec] at h; cases h; exact Nat.le_refl _
      | region os draw prs =>
        simp only [exec] at h
        split at h
        · simp only [Option.map_eq_some_iff, Prod.mk.injEq] at h
          obtain ⟨⟨e1, H1⟩, h1, rfl, rfl, rfl⟩ := h
          simp only [drawn, Option.bind_eq_some_iff] at h1
          obtain ⟨⟨fs, e2, H2⟩, hrun, h1⟩ := h1
          split at h1
          · cases h1
            have := runs_ ih2 _ _ _ _ _ _ _ hrun
            rw [Heap.next_pad] at this
            show H.next ≤ H2.next
            omega
          · cases h1
        · simp only [Option.map_eq_some_iff, Prod.mk.injEq] at h
          obtain ⟨⟨e1, H1⟩, h1, rfl, rfl, rfl⟩ := h
          exact ops_ ih2 _ _ _ _ _ h1
      | seq a b =>
        simp only [exec, Option.bind_eq_some_iff] at h
        obtain ⟨⟨y, e1, H1⟩, hy, h⟩ := h
        cases y with
        | normal => exact Nat.le_trans (ih1 _ _ _ _ _ _ hy) (ih1 _ _ _ _ _ _ h)
        | exit id => cases h; exact ih1 _ _ _ _ _ _ hy
        | ret => cases h; exact ih1 _ _ _ _ _ _ hy
      | cond c a b =>
        simp only [exec, Option.bind_eq_some_iff] at h
        obtain ⟨t, ht, h⟩ := h
        split at h
        · exact ih1 _ _ _ _ _ _ h
        · exact ih1 _ _ _ _ _ _ h
      | block id c =>
        simp only [exec, Option.map_eq_some_iff, Prod.mk.injEq] at h
        obtain ⟨⟨y, e1, H1⟩, hy, rfl, rfl, rfl⟩ := h
        exact ih1 _ _ _ _ _ _ hy
      | loop c =>
        simp only [exec, Option.bind_eq_some_iff] at h
        obtain ⟨⟨y, e1, H1⟩, hy, h⟩ := h
        cases y with
        | normal => exact Nat.le_trans (ih1 _ _ _ _ _ _ hy) (ih1 _ _ _ _ _ _ h)
        | exit id => cases h; exact ih1 _ _ _ _ _ _ hy
        | ret => cases h; exact ih1 _ _ _ _ _ _ hy
    exact ⟨main, calls _ main⟩

theorem exec_sound (hP : P.follows .mixedOrders = true) {ft : FT} (hft : FTOk P ft) : ∀ (n : Nat) (c : Code) (ac : ACode), compC P c = some ac → ∀ (e e' : Env) (H H' : Heap) (x : AExit), exec ft n ac e H = some (x, e', H') →
    ∀ (m : Mp) (F : Fz) (w : World) (a : Act), Sit m F H w e a → a.defers = [] → c.wp P (CodePost m F H w x e' H') a w ∧ ∀ c0, c = .loop c0 → RW P c0 (CodePost m F H w x e' H') a w := by
  intro n
  induction n with
  | zero => intro c ac _ e e' H H' x h; simp [exec] at h
  | succ n ih =>
    intro c ac hc e e' H H' x h m F w a hs hd
    have hcf : CfOk P (callV ft (exec ft n)) := calls_of hft (fun c ac hc e e' H H' x h m F w a hs hd => (ih c ac hc e e' H H' x h m F w a hs hd).1)
    have post : ∀ {m' : Mp} {F' : Fz} {H1 : Heap} {w' : World}, Ext m F w m' F' w' → Grew H.next m m' H1 → ∀ X a'' w'', CodePost m' F' H1 w' x e' H' X a'' w'' → CodePost m F H w x e' H' X a'' w'' := fun hE hG X a'' w'' ⟨h1, m2, F2, h2, h3, h4, h5⟩ => ⟨h1, m2, F2, h2, hE.trans h3, h4, hG.trans h5⟩
    cases c with
    | skip =>
      simp only [compC, Option.some.injEq] at hc; subst hc
      simp only [exec, Option.some.injEq, Prod.mk.injEq] at h
      obtain ⟨rfl, rfl, rfl⟩ := h
      exact ⟨wp_skip ⟨rfl, m, F, hs, Ext.refl m F w, hd, Grew.refl m H⟩, by simp⟩
    | exit id =>
      simp only [compC, Option.some.injEq] at hc; subst hc
      simp only [exec, Option.some.injEq, Prod.mk.injEq] at h
      obtain ⟨rfl, rfl, rfl⟩ := h
      exact ⟨wp_exit ⟨rfl, m, F, hs, Ext.refl m F w, hd, Grew.refl m H⟩, by simp⟩
    | ret =>
      simp only [compC, Option.some.injEq] at hc; subst hc
      simp only [exec, Option.some.injEq, Prod.mk.injEq] at h
      obtain ⟨rfl, rfl, rfl⟩ := h
      exact ⟨wp_ret ⟨rfl, m, F, hs, Ext.refl m F w, hd, Grew.refl m H⟩, by simp⟩
    | region id ops draw =>
      simp only [compC, Option.bind_eq_some_iff] at hc
      obtain ⟨os, hos, hc⟩ := hc
      refine ⟨?_, by simp⟩
      cases draw with
      | false =>
        simp only [Bool.false_eq_true, if_false, Option.some.injEq] at hc
        subst hc
        simp only [exec, Bool.false_eq_true, if_false, Option.map_eq_some_iff, Prod.mk.injEq] at h
        obtain ⟨⟨e1, H1⟩, h1, rfl, rfl, rfl⟩ := h
        exact region_sound hcf hos hs hd h1 id
      | true =>
        simp only [if_true, Option.map_eq_some_iff] at hc
        obtain ⟨prs, hprs, rfl⟩ := hc
        simp only [exec, if_true, Option.map_eq_some_iff, Prod.mk.injEq] at h
        obtain ⟨⟨e1, H1⟩, h1, rfl, rfl, rfl⟩ := h
        exact drawn_sound hP hcf (execs_next n).2 hos hprs hs hd h1 id (fun a' w' m' F' hs' hE hd' hG => ⟨rfl, m', F', hs', hE, hd', hG⟩)
    | seq c1 c2 =>
      simp only [compC, Option.bind_eq_some_iff, Option.map_eq_some_iff] at hc
      obtain ⟨a1, h1, a2, h2, rfl⟩ := hc
      refine ⟨?_, by simp⟩
      simp only [exec, Option.bind_eq_some_iff] at h
      obtain ⟨⟨y, e1, H1⟩, hy, h⟩ := h
      refine wp_seq (wp_mono (ih c1 a1 h1 e e1 H H1 y hy m F w a hs hd).1 fun X a' w' hp => ?_)
      obtain ⟨hX, m', F', hs', hE, hd', hG⟩ := hp
      cases y with
      | normal =>
        cases hX
        exact wp_mono (ih c2 a2 h2 e1 e' H1 H' x h m' F' w' a' hs' hd').1 (post hE hG)
      | exit id =>
        cases hX
        simp only [Option.some.injEq, Prod.mk.injEq] at h
        obtain ⟨rfl, rfl, rfl⟩ := h
        exact ⟨rfl, m', F', hs', hE, hd', hG⟩
      | ret =>
        cases hX
        simp only [Option.some.injEq, Prod.mk.injEq] at h
        obtain ⟨rfl, rfl, rfl⟩ := h
        exact ⟨rfl, m', F', hs', hE, hd', hG⟩
    | cond o c1 c2 =>
      simp only [compC, Option.bind_eq_some_iff, Option.map_eq_some_iff] at hc
      obtain ⟨a1, h1, a2, h2, rfl⟩ := hc
      refine ⟨?_, by simp⟩
      simp only [exec, Option.bind_eq_some_iff] at h
      obtain ⟨t, ht, h⟩ := h
      have hv := toB_some ht (hs.ev o)
      cases t with
      | true => exact wp_cond_true hv (ih c1 a1 h1 e e' H H' x h m F w a hs hd).1
      | false => exact wp_cond_false hv (ih c2 a2 h2 e e' H H' x h m F w a hs hd).1
    | block id c1 =>
      simp only [compC, Option.map_eq_some_iff] at hc
      obtain ⟨a1, h1, rfl⟩ := hc
      refine ⟨?_, by simp⟩
      simp only [exec, Option.map_eq_some_iff, Prod.mk.injEq] at h
      obtain ⟨⟨y, e1, H1⟩, hy, rfl, rfl, rfl⟩ := h
      refine wp_block (wp_mono (ih c1 a1 h1 e e1 H H1 y hy m F w a hs hd).1 fun X a' w' hp => ?_)
      obtain ⟨hX, m', F', hs', hE, hd', hG⟩ := hp
      cases y with
      | normal => cases hX; exact ⟨rfl, m', F', hs', hE, hd', hG⟩
      | ret => cases hX; exact ⟨rfl, m', F', hs', hE, hd', hG⟩
      | exit id' =>
        cases hX
        show if id' = id then _ else _
        by_cases hid : id' = id
        · subst hid
          rw [if_pos rfl]
          exact ⟨by rw [if_pos rfl]; rfl, m', F', hs', hE, hd', hG⟩
        · rw [if_neg hid]
          exact ⟨by rw [if_neg (by simpa using hid)]; rfl, m', F', hs', hE, hd', hG⟩
    | loop c1 =>
      simp only [compC, Option.map_eq_some_iff] at hc
      obtain ⟨a1, h1, rfl⟩ := hc
      simp only [exec, Option.bind_eq_some_iff] at h
      obtain ⟨⟨y, e1, H1⟩, hy, h⟩ := h
      have key : RW P c1 (CodePost m F H w x e' H') a w := by
        refine RW_step (wp_mono (ih c1 a1 h1 e e1 H H1 y hy m F w a hs hd).1 fun X a' w' hp => ?_)
        obtain ⟨hX, m', F', hs', hE, hd', hG⟩ := hp
        cases y with
        | normal =>
          cases hX
          intro b k cs
          obtain ⟨X, a'', w'', hq, harr⟩ := (ih (.loop c1) (.loop a1) (by simp [compC, h1]) e1 e' H1 H' x h m' F' w' a' hs' hd').2 c1 rfl b k cs
          exact ⟨X, a'', w'', post hE hG X a'' w'' hq, harr⟩
        | exit id =>
          cases hX
          simp only [Option.some.injEq, Prod.mk.injEq] at h
          obtain ⟨rfl, rfl, rfl⟩ := h
          exact ⟨rfl, m', F', hs', hE, hd', hG⟩
        | ret =>
          cases hX
          simp only [Option.some.injEq, Prod.mk.injEq] at h
          obtain ⟨rfl, rfl, rfl⟩ := h
          exact ⟨rfl, m', F', hs', hE, hd', hG⟩
      refine ⟨wp_of_RW key, fun c0 hc0 => ?_⟩
      cases hc0
      exact key
    | _ => simp [compC] at hc

/-- THE INTERPRETER IS SOUND: what it tells of a call is what the machine's call comes to. -/
theorem callF_sound (hP : P.follows .mixedOrders = true) {ft : FT} (hft : FTOk P ft) (n : Nat) {k : FuncId} {args : List AV} {H H' : Heap} {r : AV} (h : callF ft (exec ft n) k args H = some (r, H')) {m : Mp} {F : Fz} {w : World} {vs : Array Value} (hI : Inv m F H w) (hv : VRs m F args vs)
    (hgo : ∃ p n rs body, ft k = some (.go p n rs body)) : Calls P k vs w (CallPost m F H w r H') := by
  have hcf : CfOk P (callV ft (exec ft n)) := calls_of hft (fun c ac hc e e' H H' x h m F w a hs hd => (exec_sound hP hft n c ac hc e e' H H' x h m F w a hs hd).1)
  have hh : callV ft (exec ft n) (.fn (.func k) [] []) args H = some (r, H') := by simpa [callV] using h
  obtain ⟨k', f', c', he, hcase⟩ := hcf _ _ H H' r hh m F w (.func (.func k) #[] #[]) vs hI (.fz (.fn rfl rfl (by simp) (by simp))) hv
  cases he
  simp only [Array.empty_append, Array.append_empty] at hcase
  rcases hcase with ⟨_, h2⟩ | ⟨u, w', h1, _⟩
  · exact h2
  · obtain ⟨p, n, rs, body, hk⟩ := hgo
    obtain ⟨fn, c, g1, g2, g3, _⟩ := hft k _ hk
    simp only [callFunc, Sem.run_bind, run_program, Result.andThen_ok, g1, g2, g3, Bool.false_eq_true, if_false, Option.isNone_some, Sem.run_pure] at h1
    cases h1
end
end Go.VI

/- VI, part W: no fuel: what the interpreter comes to, as equations. -/
set_option linter.unusedVariables false
set_option linter.unusedSimpArgs false
namespace Go.VI

def CLe (cf cf' : CF) : Prop := ∀ f args H r, cf f args H = some r → cf' f args H = some r

theorem opC_mono {cf cf' : CF} (h : CLe cf cf') {nid : Nat} {e : Env} {H : Heap} {o : AOp} {r : AV × Heap} (hr : opC cf nid e H o = some r) : opC cf' nid e H o = some r := by
  unfold opC at hr ⊢
  split at hr
  · exact h _ _ _ _ hr
  · exact hr
theorem oper_mono {cf cf' : CF} (h : CLe cf cf') {nid : Nat} {e : Env} {H : Heap} {o : AOper} {r : Env × Heap} (hr : oper cf nid o e H = some r) : oper cf' nid o e H = some r := by
  unfold oper at hr ⊢
  split at hr
  · split at hr
    · simp only [Option.map_eq_some_iff] at hr
      obtain ⟨p, hp, rfl⟩ := hr
      rw [if_pos ‹_›, if_pos ‹_›, opC_mono h hp]
      rfl
    · rw [if_pos ‹_›, if_neg ‹_›]
      exact hr
  · cases hr
theorem opers_mono {cf cf' : CF} (h : CLe cf cf') : ∀ (os : List AOper) (e : Env) (H : Heap) (r : Env × Heap), opers cf os e H = some r → opers cf' os e H = some r
  | [], e, H, r, hr => hr
  | o :: os, e, H, r, hr => by
    simp only [opers, Option.bind_eq_some_iff] at hr ⊢
    obtain ⟨p, hp, hr⟩ := hr
    exact ⟨p, oper_mono h hp, opers_mono h os _ _ _ hr⟩
theorem runs_mono {cf cf' : CF} (h : CLe cf cf') {pv : AV → List AV → Bool} : ∀ (os : List AOper) (nid : Nat) (e : Env) (H : Heap) (r : List FP × Env × Heap), runs cf pv nid os e H = some r → runs cf' pv nid os e H = some r
  | [], nid, e, H, r, hr => hr
  | o :: os, nid, e, H, r, hr => by
    simp only [runs, Option.bind_eq_some_iff, Option.map_eq_some_iff] at hr ⊢
    obtain ⟨p, hp, q, hq, rfl⟩ := hr
    exact ⟨p, oper_mono h hp, q, runs_mono h os _ _ _ _ hq, rfl⟩
theorem drawn_mono {cf cf' : CF} (h : CLe cf cf') {pv : AV → List AV → Bool} {os : List AOper} {prs : List (Nat × Nat)} {e : Env} {H : Heap} {r : Env × Heap} (hr : drawn cf pv os prs e H = some r) : drawn cf' pv os prs e H = some r := by
  simp only [drawn, Option.bind_eq_some_iff] at hr ⊢
  obtain ⟨p, hp, hr⟩ := hr
  exact ⟨p, runs_mono h _ _ _ _ _ hp, hr⟩

def ELe (ex ex' : EX) : Prop := ∀ c e H r, ex c e H = some r → ex' c e H = some r
theorem callF_mono {ft : FT} {ex ex' : EX} (h : ELe ex ex') {k : FuncId} {args : List AV} {H : Heap} {r : AV × Heap} (hr : callF ft ex k args H = some r) : callF ft ex' k args H = some r := by
  unfold callF at hr ⊢
  split at hr
  · cases hr
  · exact hr
  · exact hr
  · simp only [Option.bind_eq_some_iff] at hr ⊢
    obtain ⟨p, hp, q, hq, hr⟩ := hr
    exact ⟨p, hp, q, h _ _ _ _ hq, hr⟩
  · simp only [Option.bind_eq_some_iff] at hr ⊢
    obtain ⟨q, hq, hr⟩ := hr
    exact ⟨q, h _ _ _ _ hq, hr⟩
theorem callV_mono {ft : FT} {ex ex' : EX} (h : ELe ex ex') : CLe (callV ft ex) (callV ft ex') := by
  intro f args H r hr
  unfold callV at hr ⊢
  split at hr
  · exact callF_mono h hr
  · cases hr
theorem exec_mono1 (ft : FT) : ∀ n, ELe (exec ft n) (exec ft (n + 1)) := by
  intro n
  induction n with
  | zero => intro c e H r h; simp [exec] at h
  | succ n ih =>
    intro c e H r h
    rw [exec.eq_def] at h ⊢
    simp only at h ⊢
    cases c with
    | skip => exact h
    | exit id => exact h
    | ret => exact h
    | region os draw prs =>
      simp only at h ⊢
      split at h
      · rename_i hd
        rw [if_pos hd]
        simp only [Option.map_eq_some_iff] at h ⊢
        obtain ⟨p, hp, hr⟩ := h
        exact ⟨p, drawn_mono (callV_mono ih) hp, hr⟩
      · rename_i hd
        rw [if_neg hd]
        simp only [Option.map_eq_some_iff] at h ⊢
        obtain ⟨p, hp, hr⟩ := h
        exact ⟨p, opers_mono (callV_mono ih) _ _ _ _ hp, hr⟩
    | seq a b =>
      simp only [Option.bind_eq_some_iff] at h ⊢
      obtain ⟨⟨x, e1, H1⟩, hp, hr⟩ := h
      refine ⟨(x, e1, H1), ih _ _ _ _ hp, ?_⟩
      cases x with
      | normal => exact ih _ _ _ _ hr
      | exit id => exact hr
      | ret => exact hr
    | cond o a b =>
      simp only [Option.bind_eq_some_iff] at h ⊢
      obtain ⟨t, ht, hr⟩ := h
      refine ⟨t, ht, ?_⟩
      cases t with
      | true => exact ih _ _ _ _ hr
      | false => exact ih _ _ _ _ hr
    | block id c =>
      simp only [Option.map_eq_some_iff] at h ⊢
      obtain ⟨p, hp, hr⟩ := h
      exact ⟨p, ih _ _ _ _ hp, hr⟩
    | loop c =>
      simp only [Option.bind_eq_some_iff] at h ⊢
      obtain ⟨⟨x, e1, H1⟩, hp, hr⟩ := h
      refine ⟨(x, e1, H1), ih _ _ _ _ hp, ?_⟩
      cases x with
      | normal => exact ih _ _ _ _ hr
      | exit id => exact hr
      | ret => exact hr
theorem exec_mono (ft : FT) {n m : Nat} (h : n ≤ m) : ELe (exec ft n) (exec ft m) := by
  induction h with
  | refl => exact fun _ _ _ _ h => h
  | step _ ih => exact fun c e H r h => exec_mono1 ft _ _ _ _ _ (ih _ _ _ _ h)

/-! ### the limits -/
open Classical in
/-- What a growing row of answers comes to. -/
noncomputable def lim {α : Type} (f : Nat → Option α) : Option α := if h : ∃ r, ∃ n, f n = some r then some (Classical.choose h) else none
theorem lim_eq {α : Type} {f : Nat → Option α} (hm : ∀ n m r, n ≤ m → f n = some r → f m = some r) (r : α) : lim f = some r ↔ ∃ n, f n = some r := by
  unfold lim
  constructor
  · intro h
    split at h
    · rename_i hx
      cases h
      exact Classical.choose_spec hx
    · cases h
  · rintro ⟨n, hn⟩
    have hx : ∃ r, ∃ n, f n = some r := ⟨r, n, hn⟩
    rw [dif_pos hx]
    obtain ⟨m, hm'⟩ := Classical.choose_spec hx
    have h1 := hm n (max n m) r (Nat.le_max_left _ _) hn
    have h2 := hm m (max n m) _ (Nat.le_max_right _ _) hm'
    rw [h1] at h2
    exact h2.symm
theorem opt_ext {α : Type} {a b : Option α} (h : ∀ r, a = some r ↔ b = some r) : a = b := by
  cases a with
  | none =>
    cases b with
    | none => rfl
    | some b => exact absurd ((h b).2 rfl) (by simp)
  | some a => exact ((h a).1 rfl).symm

noncomputable def execL (ft : FT) : EX := fun c e H => lim fun n => exec ft n c e H
noncomputable def callL (ft : FT) : CF := callV ft (execL ft)
theorem execL_some {ft : FT} {c : ACode} {e : Env} {H : Heap} {r : AExit × Env × Heap} : execL ft c e H = some r ↔ ∃ n, exec ft n c e H = some r :=
  lim_eq (fun n m r h => exec_mono ft h c e H r) r
theorem exec_L (ft : FT) (n : Nat) : ELe (exec ft n) (execL ft) := fun c e H r h => execL_some.2 ⟨n, h⟩
theorem callF_L {ft : FT} {k : FuncId} {args : List AV} {H : Heap} {r : AV × Heap} (h : callF ft (execL ft) k args H = some r) : ∃ n, callF ft (exec ft n) k args H = some r := by
  unfold callF at h ⊢
  split at h
  · cases h
  · exact ⟨0, h⟩
  · exact ⟨0, h⟩
  · simp only [Option.bind_eq_some_iff] at h ⊢
    obtain ⟨p, hp, q, hq, hr⟩ := h
    obtain ⟨n, hn⟩ := execL_some.1 hq
    exact ⟨n, p, hp, q, hn, hr⟩
  · simp only [Option.bind_eq_some_iff] at h ⊢
    obtain ⟨q, hq, hr⟩ := h
    obtain ⟨n, hn⟩ := execL_some.1 hq
    exact ⟨n, q, hn, hr⟩
theorem callL_some {ft : FT} {f : AV} {args : List AV} {H : Heap} {r : AV × Heap} : callL ft f args H = some r ↔ ∃ n, callV ft (exec ft n) f args H = some r := by
  constructor
  · intro h
    unfold callL callV at h
    unfold callV
    split at h
    · exact callF_L h
    · cases h
  · rintro ⟨n, h⟩
    exact callV_mono (exec_L ft n) _ _ _ _ h

section
variable {ft : FT}
theorem oper_L {nid : Nat} {o : AOper} {e : Env} {H : Heap} {r : Env × Heap} (h : oper (callL ft) nid o e H = some r) : ∃ n, oper (callV ft (exec ft n)) nid o e H = some r := by
  unfold oper at h ⊢
  split at h
  rotate_left
  · cases h
  rename_i hk
  simp only [if_pos hk]
  split at h
  · rename_i hw
    simp only [if_pos hw]
    simp only [Option.map_eq_some_iff] at h ⊢
    obtain ⟨p, hp, hr⟩ := h
    unfold opC at hp ⊢
    split at hp
    · obtain ⟨n, hn⟩ := callL_some.1 hp
      exact ⟨n, p, hn, hr⟩
    · exact ⟨0, p, hp, hr⟩
  · rename_i hw
    simp only [if_neg hw]
    exact ⟨0, h⟩
theorem opers_L : ∀ (os : List AOper) (e : Env) (H : Heap) (r : Env × Heap), opers (callL ft) os e H = some r → ∃ n, opers (callV ft (exec ft n)) os e H = some r
  | [], e, H, r, h => ⟨0, h⟩
  | o :: os, e, H, r, h => by
    simp only [opers, Option.bind_eq_some_iff] at h ⊢
    obtain ⟨p, hp, h⟩ := h
    obtain ⟨n, hn⟩ := oper_L hp
    obtain ⟨m, hm⟩ := opers_L os _ _ _ h
    exact ⟨max n m, p, oper_mono (callV_mono (exec_mono ft (Nat.le_max_left _ _))) hn, opers_mono (callV_mono (exec_mono ft (Nat.le_max_right _ _))) _ _ _ _ hm⟩
theorem runs_L {pv : AV → List AV → Bool} : ∀ (os : List AOper) (nid : Nat) (e : Env) (H : Heap) (r : List FP × Env × Heap), runs (callL ft) pv nid os e H = some r → ∃ n, runs (callV ft (exec ft n)) pv nid os e H = some r
  | [], nid, e, H, r, h => ⟨0, h⟩
  | o :: os, nid, e, H, r, h => by
    simp only [runs, Option.bind_eq_some_iff, Option.map_eq_some_iff] at h ⊢
    obtain ⟨p, hp, q, hq, rfl⟩ := h
    obtain ⟨n, hn⟩ := oper_L hp
    obtain ⟨m, hm⟩ := runs_L os _ _ _ _ hq
    exact ⟨max n m, p, oper_mono (callV_mono (exec_mono ft (Nat.le_max_left _ _))) hn, q, runs_mono (callV_mono (exec_mono ft (Nat.le_max_right _ _))) _ _ _ _ _ hm, rfl⟩

theorem exec_at {n : Nat} {c : ACode} {e : Env} {H : Heap} {r : AExit × Env × Heap} (h : exec ft n c e H = some r) : exec ft (n + 1) c e H = some r := exec_mono1 ft n _ _ _ _ h

theorem execL_skip (e : Env) (H : Heap) : execL ft .skip e H = some (.normal, e, H) := execL_some.2 ⟨1, rfl⟩
theorem execL_exit (id : Nat) (e : Env) (H : Heap) : execL ft (.exit id) e H = some (.exit id, e, H) := execL_some.2 ⟨1, rfl⟩
theorem execL_ret (e : Env) (H : Heap) : execL ft .ret e H = some (.ret, e, H) := execL_some.2 ⟨1, rfl⟩
theorem execL_region (os : List AOper) (e : Env) (H : Heap) : execL ft (.region os false []) e H = (opers (callL ft) os e H).map fun (e, H) => (.normal, e, H) := by
  refine opt_ext fun r => ?_
  rw [execL_some]
  constructor
  · rintro ⟨n, h⟩
    have h := exec_at h
    simp only [exec, Bool.false_eq_true, if_false, Option.map_eq_some_iff] at h ⊢
    obtain ⟨p, hp, hr⟩ := h
    exact ⟨p, opers_mono (callV_mono (exec_L ft n)) _ _ _ _ hp, hr⟩
  · intro h
    simp only [Option.map_eq_some_iff] at h
    obtain ⟨p, hp, hr⟩ := h
    obtain ⟨n, hn⟩ := opers_L _ _ _ _ hp
    exact ⟨n + 1, by simp only [exec, Bool.false_eq_true, if_false, hn, Option.map_some]; exact congrArg some hr⟩
theorem execL_drawn (os : List AOper) (prs : List (Nat × Nat)) (e : Env) (H : Heap) : execL ft (.region os true prs) e H = (drawn (callL ft) (pureV ft) os prs e H).map fun (e, H) => (.normal, e, H) := by
  refine opt_ext fun r => ?_
  rw [execL_some]
  constructor
  · rintro ⟨n, h⟩
    have h := exec_at h
    simp only [exec, if_true, Option.map_eq_some_iff] at h ⊢
    obtain ⟨p, hp, hr⟩ := h
    exact ⟨p, drawn_mono (callV_mono (exec_L ft n)) hp, hr⟩
  · intro h
    simp only [Option.map_eq_some_iff] at h
    obtain ⟨p, hp, hr⟩ := h
    simp only [drawn, Option.bind_eq_some_iff] at hp
    obtain ⟨q, hq, hp⟩ := hp
    obtain ⟨n, hn⟩ := runs_L _ _ _ _ _ hq
    refine ⟨n + 1, ?_⟩
    simp only [exec, if_true, drawn, hn, Option.bind_some]
    rw [hp]
    exact congrArg some hr
theorem execL_seq (a b : ACode) (e : Env) (H : Heap) : execL ft (.seq a b) e H = (execL ft a e H).bind fun (x, e, H) => match x with
    | .normal => execL ft b e H
    | x => some (x, e, H) := by
  refine opt_ext fun r => ?_
  rw [execL_some]
  constructor
  · rintro ⟨n, h⟩
    have h := exec_at h
    simp only [exec, Option.bind_eq_some_iff] at h ⊢
    obtain ⟨⟨x, e1, H1⟩, hp, hr⟩ := h
    refine ⟨(x, e1, H1), exec_L ft n _ _ _ _ hp, ?_⟩
    cases x with
    | normal => exact exec_L ft n _ _ _ _ hr
    | exit id => exact hr
    | ret => exact hr
  · intro h
    simp only [Option.bind_eq_some_iff] at h
    obtain ⟨⟨x, e1, H1⟩, hp, hr⟩ := h
    obtain ⟨n, hn⟩ := execL_some.1 hp
    cases x with
    | normal =>
      obtain ⟨m, hm⟩ := execL_some.1 hr
      refine ⟨max n m + 1, ?_⟩
      simp only [exec, exec_mono ft (Nat.le_max_left n m) _ _ _ _ hn, Option.bind_some]
      exact exec_mono ft (Nat.le_max_right n m) _ _ _ _ hm
    | exit id => exact ⟨n + 1, by simp only [exec, hn, Option.bind_some]; exact hr⟩
    | ret => exact ⟨n + 1, by simp only [exec, hn, Option.bind_some]; exact hr⟩
theorem execL_cond (c : Operand) (a b : ACode) (e : Env) (H : Heap) : execL ft (.cond c a b) e H = (toB (ev e c)).bind fun t => if t then execL ft a e H else execL ft b e H := by
  refine opt_ext fun r => ?_
  rw [execL_some]
  constructor
  · rintro ⟨n, h⟩
    have h := exec_at h
    simp only [exec, Option.bind_eq_some_iff] at h ⊢
    obtain ⟨t, ht, hr⟩ := h
    refine ⟨t, ht, ?_⟩
    cases t with
    | true => exact exec_L ft n _ _ _ _ hr
    | false => exact exec_L ft n _ _ _ _ hr
  · intro h
    simp only [Option.bind_eq_some_iff] at h
    obtain ⟨t, ht, hr⟩ := h
    cases t with
    | true =>
      obtain ⟨m, hm⟩ := execL_some.1 hr
      exact ⟨m + 1, by simp only [exec, ht, Option.bind_some]; exact hm⟩
    | false =>
      obtain ⟨m, hm⟩ := execL_some.1 hr
      exact ⟨m + 1, by simp only [exec, ht, Option.bind_some]; exact hm⟩
theorem execL_block (id : Nat) (c : ACode) (e : Env) (H : Heap) : execL ft (.block id c) e H = (execL ft c e H).map fun (x, e, H) => (if x = .exit id then .normal else x, e, H) := by
  refine opt_ext fun r => ?_
  rw [execL_some]
  constructor
  · rintro ⟨n, h⟩
    have h := exec_at h
    simp only [exec, Option.map_eq_some_iff] at h ⊢
    obtain ⟨p, hp, hr⟩ := h
    exact ⟨p, exec_L ft n _ _ _ _ hp, hr⟩
  · intro h
    simp only [Option.map_eq_some_iff] at h
    obtain ⟨p, hp, hr⟩ := h
    obtain ⟨n, hn⟩ := execL_some.1 hp
    exact ⟨n + 1, by simp only [exec, hn, Option.map_some]; exact congrArg some hr⟩
theorem execL_loop (c : ACode) (e : Env) (H : Heap) : execL ft (.loop c) e H = (execL ft c e H).bind fun (x, e, H) => match x with
    | .normal => execL ft (.loop c) e H
    | x => some (x, e, H) := by
  refine opt_ext fun r => ?_
  rw [execL_some]
  constructor
  · rintro ⟨n, h⟩
    have h := exec_at h
    simp only [exec, Option.bind_eq_some_iff] at h ⊢
    obtain ⟨⟨x, e1, H1⟩, hp, hr⟩ := h
    refine ⟨(x, e1, H1), exec_L ft n _ _ _ _ hp, ?_⟩
    cases x with
    | normal => exact exec_L ft n _ _ _ _ hr
    | exit id => exact hr
    | ret => exact hr
  · intro h
    simp only [Option.bind_eq_some_iff] at h
    obtain ⟨⟨x, e1, H1⟩, hp, hr⟩ := h
    obtain ⟨n, hn⟩ := execL_some.1 hp
    cases x with
    | normal =>
      obtain ⟨m, hm⟩ := execL_some.1 hr
      refine ⟨max n m + 1, ?_⟩
      simp only [exec, exec_mono ft (Nat.le_max_left n m) _ _ _ _ hn, Option.bind_some]
      exact exec_mono ft (Nat.le_max_right n m) _ _ _ _ hm
    | exit id => exact ⟨n + 1, by simp only [exec, hn, Option.bind_some]; exact hr⟩
    | ret => exact ⟨n + 1, by simp only [exec, hn, Option.bind_some]; exact hr⟩
end
end Go.VI

/- VI, part X: reasoning forward: slots as functions, conditions behind code, calls. -/
set_option linter.unusedVariables false
set_option linter.unusedSimpArgs false
namespace Go.VI

/-! ### slots as functions -/
def mkE (n : Nat) (f : Nat → AV) : Env := (List.range n).map f
def upd (f : Nat → AV) (t : Nat) (v : AV) : Nat → AV := fun s => if s = t then v else f s
def ofL (l : List AV) : Nat → AV := fun t => l.getD t .bad
theorem mkE_get (n : Nat) (f : Nat → AV) (t : Nat) : (mkE n f).getD t .bad = if t < n then f t else .bad := by
  unfold mkE
  rw [List.getD_eq_getElem?_getD, List.getElem?_map]
  by_cases h : t < n
  · simp [h]
  · simp [h]
theorem ev_tmp (n : Nat) (f : Nat → AV) (t : Nat) : ev (mkE n f) (.tmp t) = if t < n then f t else .bad := mkE_get n f t
theorem ev_const (e : Env) (v : Value) : ev e (.const v) = ofC v := rfl
theorem ev_func (e : Env) (k : FuncId) : ev e (.func k) = .fn (.func k) [] [] := rfl
theorem putA_mkE (n : Nat) (f : Nat → AV) (t : Nat) (v : AV) : putA (mkE n f) (some t) v = mkE n (upd f t v) := by
  apply List.ext_getElem?
  intro i
  simp only [putA, mkE, upd]
  by_cases hi : i < n
  · by_cases h : i = t
    · subst h
      rw [List.getElem?_set_self (by simpa using hi)]
      simp [hi, upd]
    · rw [List.getElem?_set_ne (Ne.symm h)]
      simp [hi, h, upd]
  · rw [List.getElem?_eq_none (by simp; omega), List.getElem?_eq_none (by simp; omega)]
theorem putA_none (e : Env) (v : AV) : putA e none v = e := rfl
theorem enterE_mkE (n : Nat) (args : List AV) (h : args.length ≤ n) : enterE n args = mkE n (ofL args) := by
  apply List.ext_getElem?
  intro i
  simp only [enterE, mkE, ofL]
  rcases Nat.lt_or_ge i args.length with h1 | h1
  · rw [List.getElem?_append_left h1]
    have : i < n := by omega
    simp [this, h1, ofL]
  · rw [List.getElem?_append_right h1, List.getElem?_replicate]
    by_cases hn : i < n
    · rw [if_pos (by omega)]
      simp [hn, List.getElem?_eq_none h1, ofL]
    · rw [if_neg (by omega), List.getElem?_eq_none (by simp; omega)]
theorem upd_at (f : Nat → AV) (t : Nat) (v : AV) (s : Nat) : upd f t v s = if s = t then v else f s := rfl

/-! ### conditions behind code -/
/-- The code comes to an end with Q. -/
def AW (ft : FT) (c : ACode) (e : Env) (H : Heap) (Q : AExit → Env → Heap → Prop) : Prop := ∃ x e' H', execL ft c e H = some (x, e', H') ∧ Q x e' H'
/-- The operations, in the text's order. -/
def OW (ft : FT) (os : List AOper) (e : Env) (H : Heap) (Q : Env → Heap → Prop) : Prop := ∃ e' H', opers (callL ft) os e H = some (e', H') ∧ Q e' H'
/-- The operations of a region of open order: 'fs' what was looked at so far. -/
def DW (ft : FT) (nid : Nat) (os : List AOper) (fs : List FP) (e : Env) (H : Heap) (Q : List FP → Env → Heap → Prop) : Prop := ∃ gs e' H', runs (callL ft) (pureV ft) nid os e H = some (gs, e', H') ∧ Q (fs ++ gs) e' H'

section
variable {ft : FT} {e : Env} {H : Heap} {Q : AExit → Env → Heap → Prop}
theorem AW.mono {c : ACode} {Q' : AExit → Env → Heap → Prop} (h : AW ft c e H Q) (hq : ∀ x e' H', Q x e' H' → Q' x e' H') : AW ft c e H Q' := by
  obtain ⟨x, e', H', h1, h2⟩ := h
  exact ⟨x, e', H', h1, hq _ _ _ h2⟩
theorem AW_skip : AW ft .skip e H Q ↔ Q .normal e H := by
  constructor
  · rintro ⟨x, e', H', h, hq⟩
    rw [execL_skip] at h
    cases h
    exact hq
  · intro h; exact ⟨_, _, _, execL_skip e H, h⟩
theorem AW_exit {id : Nat} : AW ft (.exit id) e H Q ↔ Q (.exit id) e H := by
  constructor
  · rintro ⟨x, e', H', h, hq⟩
    rw [execL_exit] at h
    cases h
    exact hq
  · intro h; exact ⟨_, _, _, execL_exit id e H, h⟩
theorem AW_ret : AW ft .ret e H Q ↔ Q .ret e H := by
  constructor
  · rintro ⟨x, e', H', h, hq⟩
    rw [execL_ret] at h
    cases h
    exact hq
  · intro h; exact ⟨_, _, _, execL_ret e H, h⟩
/-- What stands behind. -/
def thenA (R : Env → Heap → Prop) (Q : AExit → Env → Heap → Prop) : AExit → Env → Heap → Prop
  | .normal, e, H => R e H
  | x, e, H => Q x e H
theorem thenA_normal {R : Env → Heap → Prop} : thenA R Q .normal e H = R e H := rfl
theorem thenA_exit {R : Env → Heap → Prop} {id : Nat} : thenA R Q (.exit id) e H = Q (.exit id) e H := rfl
theorem thenA_ret {R : Env → Heap → Prop} : thenA R Q .ret e H = Q .ret e H := rfl
theorem AW_seq {a b : ACode} : AW ft (.seq a b) e H Q ↔ AW ft a e H (thenA (fun e H => AW ft b e H Q) Q) := by
  constructor
  · rintro ⟨x, e', H', h, hq⟩
    rw [execL_seq, Option.bind_eq_some_iff] at h
    obtain ⟨⟨y, e1, H1⟩, h1, h2⟩ := h
    refine ⟨y, e1, H1, h1, ?_⟩
    cases y with
    | normal => exact ⟨x, e', H', h2, hq⟩
    | exit id => cases h2; exact hq
    | ret => cases h2; exact hq
  · rintro ⟨y, e1, H1, h1, hq⟩
    cases y with
    | normal =>
      obtain ⟨x, e', H', h2, hq⟩ := hq
      exact ⟨x, e', H', by rw [execL_seq, h1]; exact h2, hq⟩
    | exit id => exact ⟨.exit id, e1, H1, by rw [execL_seq, h1]; rfl, hq⟩
    | ret => exact ⟨.ret, e1, H1, by rw [execL_seq, h1]; rfl, hq⟩
theorem AW_cond {c : Operand} {a b : ACode} {t : Bool} (h : ev e c = .sc (.bool t)) : AW ft (.cond c a b) e H Q ↔ if t = true then AW ft a e H Q else AW ft b e H Q := by
  have : execL ft (.cond c a b) e H = if t = true then execL ft a e H else execL ft b e H := by
    rw [execL_cond, h]
    rfl
  unfold AW
  rw [this]
  cases t <;> rfl
def blockA (id : Nat) (Q : AExit → Env → Heap → Prop) : AExit → Env → Heap → Prop
  | .exit j, e, H => if j = id then Q .normal e H else Q (.exit j) e H
  | x, e, H => Q x e H
theorem blockA_normal {id : Nat} : blockA id Q .normal e H = Q .normal e H := rfl
theorem blockA_ret {id : Nat} : blockA id Q .ret e H = Q .ret e H := rfl
theorem blockA_exit {id j : Nat} : blockA id Q (.exit j) e H = if j = id then Q .normal e H else Q (.exit j) e H := rfl
theorem AW_block {id : Nat} {c : ACode} : AW ft (.block id c) e H Q ↔ AW ft c e H (blockA id Q) := by
  constructor
  · rintro ⟨x, e', H', h, hq⟩
    rw [execL_block, Option.map_eq_some_iff] at h
    obtain ⟨⟨y, e1, H1⟩, h1, h2⟩ := h
    simp only [Prod.mk.injEq] at h2
    obtain ⟨rfl, rfl, rfl⟩ := h2
    refine ⟨y, e1, H1, h1, ?_⟩
    cases y with
    | normal => exact hq
    | ret => exact hq
    | exit j =>
      rw [blockA_exit]
      by_cases hj : j = id
      · subst hj
        rw [if_pos rfl] at hq ⊢
        exact hq
      · rw [if_neg hj]
        rw [if_neg (by simpa using hj)] at hq
        exact hq
  · rintro ⟨y, e1, H1, h1, hq⟩
    refine ⟨if y = .exit id then .normal else y, e1, H1, by rw [execL_block, h1]; rfl, ?_⟩
    cases y with
    | normal => exact hq
    | ret => exact hq
    | exit j =>
      rw [blockA_exit] at hq
      by_cases hj : j = id
      · subst hj
        rw [if_pos rfl] at hq ⊢
        exact hq
      · rw [if_neg hj] at hq
        rw [if_neg (by simpa using hj)]
        exact hq
/-- One way through the loop. -/
theorem AW_loop {c : ACode} : AW ft (.loop c) e H Q ↔ AW ft c e H (thenA (fun e H => AW ft (.loop c) e H Q) Q) := by
  constructor
  · rintro ⟨x, e', H', h, hq⟩
    rw [execL_loop, Option.bind_eq_some_iff] at h
    obtain ⟨⟨y, e1, H1⟩, h1, h2⟩ := h
    refine ⟨y, e1, H1, h1, ?_⟩
    cases y with
    | normal => exact ⟨x, e', H', h2, hq⟩
    | exit id => cases h2; exact hq
    | ret => cases h2; exact hq
  · rintro ⟨y, e1, H1, h1, hq⟩
    cases y with
    | normal =>
      obtain ⟨x, e', H', h2, hq⟩ := hq
      exact ⟨x, e', H', by rw [execL_loop, h1]; exact h2, hq⟩
    | exit id => exact ⟨.exit id, e1, H1, by rw [execL_loop, h1]; rfl, hq⟩
    | ret => exact ⟨.ret, e1, H1, by rw [execL_loop, h1]; rfl, hq⟩
/-- A loop with an invariant and a number that falls. -/
theorem AW_inv {c : ACode} (I : Nat → Env → Heap → Prop) (hI : ∀ n e H, I n e H → AW ft c e H (thenA (fun e H => ∃ m, m < n ∧ I m e H) Q)) (n : Nat) (h : I n e H) : AW ft (.loop c) e H Q := by
  induction n using Nat.strongRecOn generalizing e H with
  | _ n ih =>
    rw [AW_loop]
    refine (hI n e H h).mono fun x e' H' hx => ?_
    cases x with
    | normal =>
      obtain ⟨m, hm, h'⟩ := hx
      exact ih m hm h'
    | exit id => exact hx
    | ret => exact hx

theorem AW_region {os : List AOper} : AW ft (.region os false []) e H Q ↔ OW ft os e H (Q .normal) := by
  constructor
  · rintro ⟨x, e', H', h, hq⟩
    rw [execL_region, Option.map_eq_some_iff] at h
    obtain ⟨⟨e1, H1⟩, h1, h2⟩ := h
    simp only [Prod.mk.injEq] at h2
    obtain ⟨rfl, rfl, rfl⟩ := h2
    exact ⟨e1, H1, h1, hq⟩
  · rintro ⟨e1, H1, h1, hq⟩
    exact ⟨.normal, e1, H1, by rw [execL_region, h1]; rfl, hq⟩
/-- No two meet. -/
def okP (prs : List (Nat × Nat)) (fs : List FP) : Bool := prs.all fun p => compat (fs.getD p.1 none) (fs.getD p.2 none)
theorem AW_drawn {os : List AOper} {prs : List (Nat × Nat)} : AW ft (.region os true prs) e H Q ↔ DW ft H.next os [] e (H.pad (nAls os)) (fun fs e H => okP prs fs = true ∧ Q .normal e H) := by
  constructor
  · rintro ⟨x, e', H', h, hq⟩
    rw [execL_drawn, Option.map_eq_some_iff] at h
    obtain ⟨⟨e1, H1⟩, h1, h2⟩ := h
    cases h2
    simp only [drawn, Option.bind_eq_some_iff] at h1
    obtain ⟨⟨fs, e2, H2⟩, h1, h2⟩ := h1
    split at h2
    · cases h2
      exact ⟨fs, _, _, h1, ‹_›, hq⟩
    · cases h2
  · rintro ⟨fs, e1, H1, h1, h2, hq⟩
    refine ⟨.normal, e1, H1, ?_, hq⟩
    rw [execL_drawn]
    simp only [drawn, h1, Option.bind_some]
    rw [if_pos (by simpa [okP] using h2)]
    rfl

theorem OW_nil {Q : Env → Heap → Prop} : OW ft [] e H Q ↔ Q e H := by
  constructor
  · rintro ⟨e', H', h, hq⟩
    cases h
    exact hq
  · intro h; exact ⟨e, H, rfl, h⟩
/-- The value of an operation. -/
def VW (ft : FT) (nid : Nat) (e : Env) (H : Heap) (o : AOp) (K : AV → Heap → Prop) : Prop := ∃ v H', opC (callL ft) nid e H o = some (v, H') ∧ K v H'
def GW (g : Option (Option Nat × Bool)) (e : Env) (yes no : Prop) : Prop := knownA e g = true ∧ if wantA e g = true then yes else no
theorem GW_none {yes no : Prop} : GW none e yes no ↔ yes := by simp [GW, knownA, wantA]
theorem GW_some {t : Nat} {b c : Bool} {yes no : Prop} (h : ev e (.tmp t) = .sc (.bool c)) : GW (some (some t, b)) e yes no ↔ if c = b then yes else no := by
  have h' : e.getD t .bad = .sc (.bool c) := h
  unfold GW knownA wantA
  simp only [h']
  cases b <;> cases c <;> simp
theorem OW_cons {o : AOper} {os : List AOper} {Q : Env → Heap → Prop} : OW ft (o :: os) e H Q ↔ GW o.guard e (VW ft H.next e H o.op fun v H' => OW ft os (putA e o.dst v) H' Q) (OW ft os (putA e o.dst (.tup [])) H Q) := by
  constructor
  · rintro ⟨e', H', h, hq⟩
    simp only [opers, Option.bind_eq_some_iff] at h
    obtain ⟨⟨e1, H1⟩, h1, h2⟩ := h
    unfold oper at h1
    split at h1
    rotate_left
    · cases h1
    rename_i hk
    refine ⟨hk, ?_⟩
    split at h1
    · rename_i hw
      rw [if_pos hw]
      simp only [Option.map_eq_some_iff, Prod.mk.injEq] at h1
      obtain ⟨⟨v, K⟩, h1, rfl, rfl⟩ := h1
      exact ⟨v, K, h1, e', H', h2, hq⟩
    · rename_i hw
      rw [if_neg hw]
      cases h1
      exact ⟨e', H', h2, hq⟩
  · rintro ⟨hk, h⟩
    split at h
    · rename_i hw
      obtain ⟨v, K, h1, e', H', h2, hq⟩ := h
      refine ⟨e', H', ?_, hq⟩
      simp only [opers, oper, if_pos hk, if_pos hw, h1, Option.map_some, Option.bind_some]
      exact h2
    · rename_i hw
      obtain ⟨e', H', h2, hq⟩ := h
      refine ⟨e', H', ?_, hq⟩
      simp only [opers, oper, if_pos hk, if_neg hw, Option.bind_some]
      exact h2
theorem DW_nil {nid : Nat} {fs : List FP} {Q : List FP → Env → Heap → Prop} : DW ft nid [] fs e H Q ↔ Q fs e H := by
  constructor
  · rintro ⟨gs, e', H', h, hq⟩
    cases h
    simpa using hq
  · intro h; exact ⟨[], e, H, rfl, by simpa using h⟩
theorem DW_cons {nid : Nat} {o : AOper} {os : List AOper} {fs : List FP} {Q : List FP → Env → Heap → Prop} : DW ft nid (o :: os) fs e H Q ↔
    GW o.guard e (VW ft nid e H o.op fun v H' => DW ft (nid + nAl o) os (fs ++ [fpS (pureV ft) nid e o.op]) (putA e o.dst v) H' Q) (DW ft (nid + nAl o) os (fs ++ [some (false, [])]) (putA e o.dst (.tup [])) H Q) := by
  constructor
  · rintro ⟨gs, e', H', h, hq⟩
    simp only [runs, Option.bind_eq_some_iff, Option.map_eq_some_iff, Prod.mk.injEq] at h
    obtain ⟨⟨e1, H1⟩, h1, ⟨gs', e2, H2⟩, h2, rfl, rfl, rfl⟩ := h
    unfold oper at h1
    split at h1
    rotate_left
    · cases h1
    rename_i hk
    refine ⟨hk, ?_⟩
    split at h1
    · rename_i hw
      rw [if_pos hw]
      simp only [Option.map_eq_some_iff, Prod.mk.injEq] at h1
      obtain ⟨⟨v, K⟩, h1, rfl, rfl⟩ := h1
      refine ⟨v, K, h1, gs', e2, H2, h2, ?_⟩
      have : fpO (pureV ft) nid e o = fpS (pureV ft) nid e o.op := by simp only [fpO, if_pos hw]
      rw [this] at hq
      simpa using hq
    · rename_i hw
      rw [if_neg hw]
      cases h1
      refine ⟨gs', e2, H2, h2, ?_⟩
      have : fpO (pureV ft) nid e o = some (false, []) := by simp only [fpO, if_neg hw]
      rw [this] at hq
      simpa using hq
  · rintro ⟨hk, h⟩
    split at h
    · rename_i hw
      obtain ⟨v, K, h1, gs, e', H', h2, hq⟩ := h
      refine ⟨fpO (pureV ft) nid e o :: gs, e', H', ?_, ?_⟩
      · simp only [runs, oper, if_pos hk, if_pos hw, h1, Option.map_some, Option.bind_some]
        rw [h2]
        rfl
      · have : fpO (pureV ft) nid e o = fpS (pureV ft) nid e o.op := by simp only [fpO, if_pos hw]
        rw [this]
        simpa using hq
    · rename_i hw
      obtain ⟨gs, e', H', h2, hq⟩ := h
      refine ⟨fpO (pureV ft) nid e o :: gs, e', H', ?_, ?_⟩
      · simp only [runs, oper, if_pos hk, if_neg hw, Option.bind_some]
        rw [h2]
        rfl
      · have : fpO (pureV ft) nid e o = some (false, []) := by simp only [fpO, if_neg hw]
        rw [this]
        simpa using hq

theorem VW_op {nid : Nat} {o : AOp} {K : AV → Heap → Prop} {v : AV} {H' : Heap} (h : opC (callL ft) nid e H o = some (v, H')) : VW ft nid e H o K ↔ K v H' := by
  constructor
  · rintro ⟨v', H'', h1, hk⟩
    rw [h] at h1
    cases h1
    exact hk
  · intro hk; exact ⟨v, H', h, hk⟩
/-- A call's value. -/
def KW (ft : FT) (f : AV) (args : List AV) (H : Heap) (K : AV → Heap → Prop) : Prop := ∃ v H', callL ft f args H = some (v, H') ∧ K v H'
theorem VW_call {nid : Nat} {f : Operand} {args : List Operand} {K : AV → Heap → Prop} : VW ft nid e H (.call f args) K ↔ KW ft (ev e f) (args.map (ev e)) H K := Iff.rfl
theorem KW_of {f : AV} {args : List AV} {K : AV → Heap → Prop} {v : AV} {H' : Heap} (h : callL ft f args H = some (v, H')) : KW ft f args H K ↔ K v H' := by
  constructor
  · rintro ⟨v', H'', h1, hk⟩
    rw [h] at h1
    cases h1
    exact hk
  · intro hk; exact ⟨v, H', h, hk⟩
end

/-! ### calls -/
theorem callL_fn (ft : FT) (k : FuncId) (first caps args : List AV) (H : Heap) : callL ft (.fn (.func k) first caps) args H = callF ft (execL ft) k (first ++ args ++ caps) H := rfl
theorem call_pure {ft : FT} {k : FuncId} {first caps args as' : List AV} {H H1 : Heap} {n : Nat} {rs : List ARes} {body : ACode} {R : AV} (hk : ft k = some (.go true n rs body)) (hz : frzCells H (first ++ args ++ caps) = some (as', H1)) (hl : as'.length ≤ n)
    (h : AW ft body (mkE n (ofL as')) Heap.empty fun x e Hc => leaves x = true ∧ ∃ r0 Hc', resultsA Hc e rs = some r0 ∧ frz FZ Hc r0 = some (R, Hc')) : callL ft (.fn (.func k) first caps) args H = some (R, H1) := by
  obtain ⟨x, e', Hc, h1, hx, r0, Hc', h2, h3⟩ := h
  rw [callL_fn]
  unfold callF
  simp only [hk, hz, Option.bind_some, enterE_mkE n as' hl, h1, hx, if_true, h2, h3, Option.map_some]
theorem call_open {ft : FT} {k : FuncId} {first caps args : List AV} {H H1 : Heap} {n : Nat} {rs : List ARes} {body : ACode} {R : AV} (hk : ft k = some (.go false n rs body)) (hl : (first ++ args ++ caps).length ≤ n)
    (h : AW ft body (mkE n (ofL (first ++ args ++ caps))) H fun x e Hc => leaves x = true ∧ resultsA Hc e rs = some R ∧ Hc = H1) : callL ft (.fn (.func k) first caps) args H = some (R, H1) := by
  obtain ⟨x, e', Hc, h1, hx, h2, rfl⟩ := h
  rw [callL_fn]
  unfold callF
  simp only [hk, enterE_mkE n _ hl, h1, Option.bind_some, hx, if_true, h2, Option.map_some]
theorem call_pprim {ft : FT} {k : FuncId} {first caps args as' : List AV} {H H1 : Heap} {p : List AV → Option AV} {R : AV} (hk : ft k = some (.pprim p)) (hz : frzCells H (first ++ args ++ caps) = some (as', H1)) (h : p as' = some R) :
    callL ft (.fn (.func k) first caps) args H = some (R, H1) := by
  rw [callL_fn]
  unfold callF
  simp only [hk, hz, Option.bind_some, h, Option.map_some]
end Go.VI

/- VI, part Y: rules by which operations are reckoned. -/
set_option linter.unusedVariables false
set_option linter.unusedSimpArgs false
namespace Go.VI

/-- An answer, and what follows. -/
def PW {α : Type} (o : Option (α × Heap)) (K : α → Heap → Prop) : Prop := ∃ v H', o = some (v, H') ∧ K v H'
theorem PW_some {α : Type} {v : α} {H : Heap} {K : α → Heap → Prop} : PW (some (v, H)) K ↔ K v H := by
  constructor
  · rintro ⟨v', H', h, hk⟩
    cases h
    exact hk
  · intro h; exact ⟨v, H, rfl, h⟩
theorem PW_ite {α : Type} {c : Prop} [Decidable c] {a b : Option (α × Heap)} {K : α → Heap → Prop} : PW (if c then a else b) K ↔ if c then PW a K else PW b K := by
  split <;> rfl
theorem PW_none {α : Type} {K : α → Heap → Prop} : PW (none : Option (α × Heap)) K ↔ False := by
  constructor
  · rintro ⟨v', H', h, hk⟩
    cases h
  · intro h; cases h
section
variable {ft : FT} {e : Env} {H : Heap} {nid : Nat} {K : AV → Heap → Prop}
theorem VW_mov (x : Operand) : VW ft nid e H (.mov x) K ↔ K (ev e x) H := VW_op rfl
theorem VW_pick (c a b : Operand) : VW ft nid e H (.pick c a b) K ↔ PW (opS nid e H (.pick c a b)) K := Iff.rfl
theorem VW_alloc (z : List AV) : VW ft nid e H (.alloc z) K ↔ K (.ptr nid 0 0) (H.put nid (.box false z)) := VW_op rfl
theorem VW_box (n : Nat) (x : Operand) : VW ft nid e H (.box n x) K ↔ PW (opS nid e H (.box n x)) K := Iff.rfl
theorem VW_build (z : List AV) (ps : List (Nat × Nat × Operand)) : VW ft nid e H (.build z ps) K ↔ PW (opS nid e H (.build z ps)) K := Iff.rfl
theorem VW_bslice (sz : Nat) (z : List AV) (len : Nat) (ps : List (Nat × Operand)) : VW ft nid e H (.bslice sz z len ps) K ↔ PW (opS nid e H (.bslice sz z len ps)) K := Iff.rfl
theorem VW_load (g : Bool) (n : Nat) (a : Operand) : VW ft nid e H (.load g n a) K ↔ PW (opS nid e H (.load g n a)) K := Iff.rfl
theorem VW_store (n : Nat) (a x : Operand) : VW ft nid e H (.store n a x) K ↔ PW (opS nid e H (.store n a x)) K := Iff.rfl
theorem VW_nilck (x : Operand) : VW ft nid e H (.nilck x) K ↔ PW (opS nid e H (.nilck x)) K := Iff.rfl
theorem VW_bin (op : BinOp) (t : TypeId) (x y : Operand) : VW ft nid e H (.bin op t x y) K ↔ PW (opS nid e H (.bin op t x y)) K := Iff.rfl
theorem VW_isnil (a : Bool) (b : Nat) (x : Operand) : VW ft nid e H (.isnil a b x) K ↔ PW (opS nid e H (.isnil a b x)) K := Iff.rfl
theorem VW_eqs (a : Bool) (b : List Nat) (x y : Operand) : VW ft nid e H (.eqs a b x y) K ↔ PW (opS nid e H (.eqs a b x y)) K := Iff.rfl
theorem VW_eqb (a : Bool) (x y : Operand) : VW ft nid e H (.eqb a x y) K ↔ PW (opS nid e H (.eqb a x y)) K := Iff.rfl
theorem VW_un (a : UnOp) (x : Operand) : VW ft nid e H (.un a x) K ↔ PW (opS nid e H (.un a x)) K := Iff.rfl
theorem VW_conv (a : IntKind) (x : Operand) : VW ft nid e H (.conv a x) K ↔ PW (opS nid e H (.conv a x)) K := Iff.rfl
theorem VW_stringish (x : Operand) : VW ft nid e H (.stringish x) K ↔ PW (opS nid e H (.stringish x)) K := Iff.rfl
theorem VW_tostr (x : Operand) : VW ft nid e H (.tostr x) K ↔ PW (opS nid e H (.tostr x)) K := Iff.rfl
theorem VW_mkfn (f : Fn) (a b : List Operand) : VW ft nid e H (.mkfn f a b) K ↔ K (.fn f (a.map (ev e)) (b.map (ev e))) H := VW_op rfl
theorem VW_mkslice (a b : Nat) (z : List AV) (x y : Operand) : VW ft nid e H (.mkslice a b z x y) K ↔ PW (opS nid e H (.mkslice a b z x y)) K := Iff.rfl
theorem VW_slice (a : Nat) (x : Operand) (b c d : Option Operand) : VW ft nid e H (.slice a x b c d) K ↔ PW (opS nid e H (.slice a x b c d)) K := Iff.rfl
theorem VW_slstr (x : Operand) (b c : Option Operand) : VW ft nid e H (.slstr x b c) K ↔ PW (opS nid e H (.slstr x b c)) K := Iff.rfl
theorem VW_faddr (a : Nat) (x : Operand) : VW ft nid e H (.faddr a x) K ↔ PW (opS nid e H (.faddr a x)) K := Iff.rfl
theorem VW_field (g : Bool) (a b : Nat) (x : Operand) : VW ft nid e H (.field g a b x) K ↔ PW (opS nid e H (.field g a b x)) K := Iff.rfl
theorem VW_iaddr (a : Option Nat) (b : Nat) (x y : Operand) : VW ft nid e H (.iaddr a b x y) K ↔ PW (opS nid e H (.iaddr a b x y)) K := Iff.rfl
theorem VW_index (a : Nat) (g : Bool) (b : Nat) (x y : Operand) : VW ft nid e H (.index a g b x y) K ↔ PW (opS nid e H (.index a g b x y)) K := Iff.rfl
theorem VW_ext (x : Operand) (i : Nat) : VW ft nid e H (.ext x i) K ↔ PW (opS nid e H (.ext x i)) K := Iff.rfl
theorem VW_len (k : Nat) (x : Operand) : VW ft nid e H (.len k x) K ↔ PW (opS nid e H (.len k x)) K := Iff.rfl
theorem VW_mx2 (x y : Operand) : VW ft nid e H (.mx2 x y) K ↔ PW (opS nid e H (.mx2 x y)) K := Iff.rfl
theorem VW_mn2 (x y : Operand) : VW ft nid e H (.mn2 x y) K ↔ PW (opS nid e H (.mn2 x y)) K := Iff.rfl
theorem VW_app (a b : Nat) (x y : Operand) : VW ft nid e H (.app a b x y) K ↔ PW (opS nid e H (.app a b x y)) K := Iff.rfl
theorem VW_copy (a : Nat) (x y : Operand) : VW ft nid e H (.copy a x y) K ↔ PW (opS nid e H (.copy a x y)) K := Iff.rfl
theorem VW_mkmap (k : Option IntKind) : VW ft nid e H (.mkmap k) K ↔ K (.mp nid) (H.put nid (.mpb k [])) := VW_op rfl
theorem VW_look (k : Option IntKind) (z : AV) (x y : Operand) (b : Bool) : VW ft nid e H (.look k z x y b) K ↔ PW (opS nid e H (.look k z x y b)) K := Iff.rfl
theorem VW_mput (k : Option IntKind) (x y z : Operand) : VW ft nid e H (.mput k x y z) K ↔ PW (opS nid e H (.mput k x y z)) K := Iff.rfl
end

/-! ### where to reckon -/
theorem AW_congr {ft : FT} {c : ACode} {e e' : Env} {H H' : Heap} {Q : AExit → Env → Heap → Prop} (h1 : e = e') (h2 : H = H') : AW ft c e H Q = AW ft c e' H' Q := by rw [h1, h2]
theorem OW_congr {ft : FT} {os : List AOper} {e e' : Env} {H H' : Heap} {Q : Env → Heap → Prop} (h1 : e = e') (h2 : H = H') : OW ft os e H Q = OW ft os e' H' Q := by rw [h1, h2]
theorem DW_congr {ft : FT} {nid nid' : Nat} {os : List AOper} {fs fs' : List FP} {e e' : Env} {H H' : Heap} {Q : List FP → Env → Heap → Prop} (h0 : nid = nid') (h3 : fs = fs') (h1 : e = e') (h2 : H = H') : DW ft nid os fs e H Q = DW ft nid' os fs' e' H' Q := by rw [h0, h1, h2, h3]
theorem VW_congr {ft : FT} {nid nid' : Nat} {o : AOp} {e e' : Env} {H H' : Heap} {K : AV → Heap → Prop} (h0 : nid = nid') (h1 : e = e') (h2 : H = H') : VW ft nid e H o K = VW ft nid' e' H' o K := by rw [h0, h1, h2]
theorem GW_congr {g g' : Option (Option Nat × Bool)} {e e' : Env} {a b : Prop} (h0 : g = g') (h1 : e = e') : GW g e a b = GW g' e' a b := by rw [h0, h1]
theorem PW_congr {α : Type} {o o' : Option (α × Heap)} {K : α → Heap → Prop} (h : o = o') : PW o K = PW o' K := by rw [h]
theorem KW_congr {ft : FT} {f f' : AV} {args args' : List AV} {H H' : Heap} {K : AV → Heap → Prop} (h1 : f = f') (h2 : args = args') (h3 : H = H') : KW ft f args H K = KW ft f' args' H' K := by rw [h1, h2, h3]
theorem ite_congr' {α : Sort _} {c c' : Prop} [Decidable c] [Decidable c'] {a b : α} (h : c = c') : ite c a b = ite c' a b := by
  subst h
  congr

/-- A guard, resolved. -/
def GV (v : AV) (b : Bool) (yes no : Prop) : Prop := (∃ c, v = .sc (.bool c) ∧ if c = b then yes else no) ∨ (v = .tup [] ∧ no)
theorem GW_tmp {t : Nat} {b : Bool} {e : Env} {yes no : Prop} : GW (some (some t, b)) e yes no ↔ GV (ev e (.tmp t)) b yes no := by
  constructor
  · rintro ⟨h1, h2⟩
    simp only [knownA] at h1
    split at h1
    · rename_i c hc
      refine .inl ⟨c, hc, ?_⟩
      simp only [wantA, hc] at h2
      cases b <;> cases c <;> simpa using h2
    · rename_i hc
      refine .inr ⟨hc, ?_⟩
      simp only [wantA, hc] at h2
      simpa using h2
    · cases h1
  · rintro (⟨c, hc, h⟩ | ⟨hc, h⟩)
    · exact (GW_some hc).2 h
    · have hc' : e.getD t .bad = .tup [] := hc
      unfold GW knownA wantA
      simp only [hc']
      simpa using h
theorem GV_true {c : Bool} {yes no : Prop} : GV (.sc (.bool c)) true yes no ↔ if c = true then yes else no := by simp [GV]
theorem GV_false {c : Bool} {yes no : Prop} : GV (.sc (.bool c)) false yes no ↔ if c = true then no else yes := by cases c <;> simp [GV]
theorem GV_skip {b : Bool} {yes no : Prop} : GV (.tup []) b yes no ↔ no := by simp [GV]
theorem GV_congr {v v' : AV} {b : Bool} {x y : Prop} (h : v = v') : GV v b x y = GV v' b x y := by rw [h]
/-- A condition, resolved. -/
def CV (v : AV) (yes no : Prop) : Prop := ∃ c, v = .sc (.bool c) ∧ if c = true then yes else no
theorem AW_cond' {ft : FT} {c : Operand} {a b : ACode} {e : Env} {H : Heap} {Q : AExit → Env → Heap → Prop} : AW ft (.cond c a b) e H Q ↔ CV (ev e c) (AW ft a e H Q) (AW ft b e H Q) := by
  constructor
  · rintro ⟨x, e', H', h, hq⟩
    rw [execL_cond, Option.bind_eq_some_iff] at h
    obtain ⟨t, ht, h⟩ := h
    unfold toB at ht
    split at ht
    · rename_i q hv
      cases ht
      refine ⟨t, hv, ?_⟩
      cases t with
      | true => exact ⟨x, e', H', h, hq⟩
      | false => exact ⟨x, e', H', h, hq⟩
    · cases ht
  · rintro ⟨t, ht, h⟩
    exact (AW_cond ht).2 h
theorem CV_bool {c : Bool} {yes no : Prop} : CV (.sc (.bool c)) yes no ↔ if c = true then yes else no := by simp [CV]
theorem CV_congr {v v' : AV} {x y : Prop} (h : v = v') : CV v x y = CV v' x y := by rw [h]

/-! ### values -/
theorem ofC_int (k : IntKind) (n : Int) : ofC (.int k n) = .sc (.int k n) := rfl
theorem ofC_bool (b : Bool) : ofC (.bool b) = .sc (.bool b) := rfl
theorem ofC_slice : ofC (.slice none 0 0) = .sc (.slice none 0 0) := rfl
theorem ofC_str (s : ByteArray) : ofC (.string s) = .sc (.string s) := rfl
theorem ofC_nilF : ofC .nilFunc = .sc .nilFunc := rfl
theorem ofC_nilP : ofC (.pointer none) = .sc (.pointer none) := rfl
theorem ofC_nilM : ofC (.map none) = .sc (.map none) := rfl
theorem toI_sc (k : IntKind) (n : Int) : toI (.sc (.int k n)) = some n := rfl
theorem toB_sc (b : Bool) : toB (.sc (.bool b)) = some b := rfl

section
variable {k : IntKind} {t : TypeId} {a b : Int}
theorem bin_add : binA .add t (.sc (.int k a)) (.sc (.int k b)) = some (.sc (.int k (k.wrap (a + b)))) := by
  simp [binA, binOp, Op.intArith, Op.intCmp, pureRun, ofScalar, isSc, pure]
theorem bin_sub : binA .sub t (.sc (.int k a)) (.sc (.int k b)) = some (.sc (.int k (k.wrap (a - b)))) := by
  simp [binA, binOp, Op.intArith, Op.intCmp, pureRun, ofScalar, isSc, pure]
theorem bin_mul : binA .mul t (.sc (.int k a)) (.sc (.int k b)) = some (.sc (.int k (k.wrap (a * b)))) := by
  simp [binA, binOp, Op.intArith, Op.intCmp, pureRun, ofScalar, isSc, pure]
theorem bin_lss : binA .lss t (.sc (.int k a)) (.sc (.int k b)) = some (.sc (.bool (decide (a < b)))) := by
  simp [binA, binOp, Op.intArith, Op.intCmp, pureRun, ofScalar, isSc, pure]
theorem bin_leq : binA .leq t (.sc (.int k a)) (.sc (.int k b)) = some (.sc (.bool (decide (a ≤ b)))) := by
  simp [binA, binOp, Op.intArith, Op.intCmp, pureRun, ofScalar, isSc, pure]
theorem bin_gtr : binA .gtr t (.sc (.int k a)) (.sc (.int k b)) = some (.sc (.bool (decide (a > b)))) := by
  simp [binA, binOp, Op.intArith, Op.intCmp, pureRun, ofScalar, isSc, pure]
theorem bin_geq : binA .geq t (.sc (.int k a)) (.sc (.int k b)) = some (.sc (.bool (decide (a ≥ b)))) := by
  simp [binA, binOp, Op.intArith, Op.intCmp, pureRun, ofScalar, isSc, pure]
theorem bin_eql : binA .eql t (.sc (.int k a)) (.sc (.int k b)) = some (.sc (.bool (a == b))) := by
  simp [binA, binOp, Op.intArith, Op.intCmp, pureRun, ofScalar, isSc, pure]
theorem bin_neq : binA .neq t (.sc (.int k a)) (.sc (.int k b)) = some (.sc (.bool (a != b))) := by
  simp [binA, binOp, Op.intArith, Op.intCmp, pureRun, ofScalar, isSc, pure]
end

/-! ### rows of what is encoded -/
section
variable {α : Type} {g : α → List AV} {l : List α} {H : Heap} {sz i off n : Nat}
theorem iaddr_map (hi : i < l.length) (hg : ∀ x, (g x).length = sz) : iaddrA H none sz (.lst (l.map g)) (i : Int) = some (.pim (l.map g) i 0) := by
  unfold iaddrA
  simp [hi, hg]
theorem cells_map (hi : i < l.length) : cellsAt H (.pim (l.map g) i off) n = if off + n ≤ (g l[i]).length then some (((g l[i]).drop off).take n) else none := by
  unfold cellsAt
  simp [hi]
end
theorem wrap_i64 {n : Int} (h : -9223372036854775808 ≤ n ∧ n ≤ 9223372036854775807) : IntKind.i64.wrap n = n := IntWalk.i64_in _ (by omega)
theorem wrap_succ {i : Nat} (h : i < 9223372036854775807) : IntKind.i64.wrap ((i : Int) + 1) = ((i + 1 : Nat) : Int) := by
  rw [wrap_i64 (by omega)]
  rfl
theorem frz_lst (n : Nat) (H : Heap) (rows : List (List AV)) : frz (n + 1) H (.lst rows) = some (.lst rows, H) := rfl
theorem frz_pim (n : Nat) (H : Heap) (rows : List (List AV)) (i off : Nat) : frz (n + 1) H (.pim rows i off) = some (.pim rows i off, H) := rfl
theorem frz_int (n : Nat) (H : Heap) (k : IntKind) (x : Int) : frz (n + 1) H (.sc (.int k x)) = some (.sc (.int k x), H) := rfl
theorem frz_bool (n : Nat) (H : Heap) (x : Bool) : frz (n + 1) H (.sc (.bool x)) = some (.sc (.bool x), H) := rfl
theorem frz_str (n : Nat) (H : Heap) (x : ByteArray) : frz (n + 1) H (.sc (.string x)) = some (.sc (.string x), H) := rfl
theorem frz_nils (n : Nat) (H : Heap) : frz (n + 1) H (.sc (.slice none 0 0)) = some (.lst [], H) := rfl
theorem frz_nilf (n : Nat) (H : Heap) : frz (n + 1) H (.sc .nilFunc) = some (.sc .nilFunc, H) := rfl
theorem frzL_nil (n : Nat) (H : Heap) : frz.frzL (n + 1) H [] = some ([], H) := rfl
theorem frzL_cons (n : Nat) (H : Heap) (c : AV) (cs : List AV) : frz.frzL (n + 1) H (c :: cs) = (frz n H c).bind fun p => (frz.frzL n p.2 cs).bind fun q => some (p.1 :: q.1, q.2) := rfl
end Go.VI

/- VI, part YA: rules that only fire where slots and heap are known. -/
set_option linter.unusedVariables false
set_option linter.unusedSimpArgs false
namespace Go.VI

/-- A heap that is known: K, and new blocks behind it. -/
def hx (K : Heap) (L : List Blk) : Heap := ⟨K.bs ++ L⟩
theorem hx_nil (K : Heap) : hx K [] = K := by simp [hx]
section
variable (K : Heap) (L : List Blk) (b : Blk) (i : Nat)
theorem hx_next : (hx K L).next = K.next + L.length := by simp [hx, Heap.next]
theorem hx_put : (hx K L).put (K.next + i) b = if i < L.length then hx K (L.set i b) else hx K (L ++ [b]) := by
  unfold Heap.put
  rw [hx_next]
  by_cases h : i < L.length
  · rw [if_pos (by omega), if_pos h]
    simp only [Heap.set, hx, Heap.next]
    congr 1
    rw [List.set_append_right _ _ (by omega)]
    congr 2
    omega
  · rw [if_neg (by omega), if_neg h]
    simp [Heap.push, hx]
theorem hx_put0 : (hx K L).put K.next b = if 0 < L.length then hx K (L.set 0 b) else hx K (L ++ [b]) := hx_put K L b 0
theorem hx_get : (hx K L).get (K.next + i) = L[i]? := by
  simp only [Heap.get, hx, Heap.next]
  rw [List.getElem?_append_right (by omega)]
  congr 1
  omega
theorem hx_get0 : (hx K L).get K.next = L[0]? := hx_get K L 0
theorem hx_get_old (h : i < K.next) : (hx K L).get i = K.get i := by
  simp only [Heap.get, hx, Heap.next] at *
  rw [List.getElem?_append_left h]
theorem hx_set : (hx K L).set (K.next + i) b = hx K (L.set i b) := by
  simp only [Heap.set, hx, Heap.next]
  rw [List.set_append_right _ _ (by omega)]
  congr 3
  omega
theorem hx_set0 : (hx K L).set K.next b = hx K (L.set 0 b) := hx_set K L b 0
theorem hx_set_old (h : i < K.next) : (hx K L).set i b = hx (K.set i b) L := by
  simp only [Heap.set, hx, Heap.next] at *
  rw [List.set_append_left _ _ h]
theorem hx_pad : (hx K L).pad i = hx K (L ++ List.replicate i .dead) := by simp [hx, Heap.pad]
theorem hxe_put : (hx Heap.empty L).put i b = if i < L.length then hx Heap.empty (L.set i b) else hx Heap.empty (L ++ [b]) := by
  have := hx_put Heap.empty L b i
  rwa [Heap.next_empty, Nat.zero_add] at this
theorem hxe_get : (hx Heap.empty L).get i = L[i]? := by
  have := hx_get Heap.empty L i
  rwa [Heap.next_empty, Nat.zero_add] at this
theorem hxe_set : (hx Heap.empty L).set i b = hx Heap.empty (L.set i b) := by
  have := hx_set Heap.empty L b i
  rwa [Heap.next_empty, Nat.zero_add] at this
theorem hxe_next : (hx Heap.empty L).next = L.length := by rw [hx_next]; simp
end
section
variable {K : Heap} {L : List Blk} {b : Blk} {i N : Nat} (h : K.next = N)
include h
theorem hx_putN : (hx K L).put (N + i) b = if i < L.length then hx K (L.set i b) else hx K (L ++ [b]) := h ▸ hx_put K L b i
theorem hx_putN0 : (hx K L).put N b = if 0 < L.length then hx K (L.set 0 b) else hx K (L ++ [b]) := h ▸ hx_put0 K L b
theorem hx_getN : (hx K L).get (N + i) = L[i]? := h ▸ hx_get K L i
theorem hx_getN0 : (hx K L).get N = L[0]? := h ▸ hx_get0 K L
theorem hx_setN : (hx K L).set (N + i) b = hx K (L.set i b) := h ▸ hx_set K L b i
theorem hx_setN0 : (hx K L).set N b = hx K (L.set 0 b) := h ▸ hx_set0 K L b
end
theorem nAls_nil : nAls [] = 0 := rfl
theorem nAls_cons (o : AOper) (os : List AOper) : nAls (o :: os) = nAl o + nAls os := rfl

section
variable {ft : FT} {n : Nat} {f : Nat → AV} {K : Heap} {L : List Blk} {Q : AExit → Env → Heap → Prop}
theorem kw_skip : AW ft .skip (mkE n f) (hx K L) Q ↔ Q .normal (mkE n f) (hx K L) := AW_skip
theorem kw_exit {id : Nat} : AW ft (.exit id) (mkE n f) (hx K L) Q ↔ Q (.exit id) (mkE n f) (hx K L) := AW_exit
theorem kw_ret : AW ft .ret (mkE n f) (hx K L) Q ↔ Q .ret (mkE n f) (hx K L) := AW_ret
theorem kw_seq {a b : ACode} : AW ft (.seq a b) (mkE n f) (hx K L) Q ↔ AW ft a (mkE n f) (hx K L) (thenA (fun e H => AW ft b e H Q) Q) := AW_seq
theorem kw_block {id : Nat} {c : ACode} : AW ft (.block id c) (mkE n f) (hx K L) Q ↔ AW ft c (mkE n f) (hx K L) (blockA id Q) := AW_block
theorem kw_region {os : List AOper} : AW ft (.region os false []) (mkE n f) (hx K L) Q ↔ OW ft os (mkE n f) (hx K L) (Q .normal) := AW_region
theorem kw_drawn {os : List AOper} {prs : List (Nat × Nat)} : AW ft (.region os true prs) (mkE n f) (hx K L) Q ↔ DW ft (hx K L).next os [] (mkE n f) ((hx K L).pad (nAls os)) (fun fs e H => okP prs fs = true ∧ Q .normal e H) := AW_drawn
theorem kw_cond {c : Operand} {a b : ACode} : AW ft (.cond c a b) (mkE n f) (hx K L) Q ↔ CV (ev (mkE n f) c) (AW ft a (mkE n f) (hx K L) Q) (AW ft b (mkE n f) (hx K L) Q) := AW_cond'
theorem ko_nil {Q : Env → Heap → Prop} : OW ft [] (mkE n f) (hx K L) Q ↔ Q (mkE n f) (hx K L) := OW_nil
theorem ko_cons {d : Option Nat} {op : AOp} {g : Option (Option Nat × Bool)} {os : List AOper} {Q : Env → Heap → Prop} : OW ft (⟨d, op, g⟩ :: os) (mkE n f) (hx K L) Q ↔
    GW g (mkE n f) (VW ft (hx K L).next (mkE n f) (hx K L) op fun v H' => OW ft os (putA (mkE n f) d v) H' Q) (OW ft os (putA (mkE n f) d (.tup [])) (hx K L) Q) := OW_cons
theorem kd_nil {nid : Nat} {fs : List FP} {Q : List FP → Env → Heap → Prop} : DW ft nid [] fs (mkE n f) (hx K L) Q ↔ Q fs (mkE n f) (hx K L) := DW_nil
theorem kd_cons {nid : Nat} {d : Option Nat} {op : AOp} {g : Option (Option Nat × Bool)} {os : List AOper} {fs : List FP} {Q : List FP → Env → Heap → Prop} : DW ft nid (⟨d, op, g⟩ :: os) fs (mkE n f) (hx K L) Q ↔
    GW g (mkE n f) (VW ft nid (mkE n f) (hx K L) op fun v H' => DW ft (nid + nAl ⟨d, op, g⟩) os (fs ++ [fpS (pureV ft) nid (mkE n f) op]) (putA (mkE n f) d v) H' Q) (DW ft (nid + nAl ⟨d, op, g⟩) os (fs ++ [some (false, [])]) (putA (mkE n f) d (.tup [])) (hx K L) Q) := DW_cons
end
/-- The same, where no two are to be looked at. -/
def NW (ft : FT) (nid : Nat) (os : List AOper) (e : Env) (H : Heap) (Q : Env → Heap → Prop) : Prop := ∃ fs e' H', runs (callL ft) (pureV ft) nid os e H = some (fs, e', H') ∧ Q e' H'
theorem DW_NW {ft : FT} {nid : Nat} {os : List AOper} {fs : List FP} {e : Env} {H : Heap} {Q : Env → Heap → Prop} : DW ft nid os fs e H (fun _ e H => Q e H) ↔ NW ft nid os e H Q := Iff.rfl
theorem NW_congr {ft : FT} {nid nid' : Nat} {os : List AOper} {e e' : Env} {H H' : Heap} {Q : Env → Heap → Prop} (h0 : nid = nid') (h1 : e = e') (h2 : H = H') : NW ft nid os e H Q = NW ft nid' os e' H' Q := by rw [h0, h1, h2]
section
variable {ft : FT} {n : Nat} {f : Nat → AV} {K : Heap} {L : List Blk} {Q : AExit → Env → Heap → Prop}
theorem kw_drawn0 {os : List AOper} : AW ft (.region os true []) (mkE n f) (hx K L) Q ↔ NW ft (hx K L).next os (mkE n f) ((hx K L).pad (nAls os)) (Q .normal) := by
  rw [AW_drawn, ← DW_NW (fs := [])]
  simp [okP]
theorem kw_drawn1 {os : List AOper} {p : Nat × Nat} {prs : List (Nat × Nat)} : AW ft (.region os true (p :: prs)) (mkE n f) (hx K L) Q ↔ DW ft (hx K L).next os [] (mkE n f) ((hx K L).pad (nAls os)) (fun fs e H => okP (p :: prs) fs = true ∧ Q .normal e H) := AW_drawn
theorem kn_nil {nid : Nat} {Q : Env → Heap → Prop} : NW ft nid [] (mkE n f) (hx K L) Q ↔ Q (mkE n f) (hx K L) := by
  rw [← DW_NW (fs := []), DW_nil]
theorem kn_cons {nid : Nat} {d : Option Nat} {op : AOp} {g : Option (Option Nat × Bool)} {os : List AOper} {Q : Env → Heap → Prop} : NW ft nid (⟨d, op, g⟩ :: os) (mkE n f) (hx K L) Q ↔
    GW g (mkE n f) (VW ft nid (mkE n f) (hx K L) op fun v H' => NW ft (nid + nAl ⟨d, op, g⟩) os (putA (mkE n f) d v) H' Q) (NW ft (nid + nAl ⟨d, op, g⟩) os (putA (mkE n f) d (.tup [])) (hx K L) Q) := by
  rw [← DW_NW (fs := []), DW_cons]
  rfl
end
theorem PW_known {α : Type} {v : α} {H : Heap} {L : List Blk} {K : α → Heap → Prop} : PW (some (v, hx H L)) K ↔ K v (hx H L) := PW_some

theorem frzCells_eq (H : Heap) (cs : List AV) : frzCells H cs = frz.frzL 24 H cs := rfl
theorem frz_sl (n : Nat) (H : Heap) (id off len : Nat) : frz (n + 1) H (.sl id off len) = match H.get id with
      | some (.row fz sz rs) => if off + len ≤ rs.length then some (.lst ((rs.drop off).take len), if fz then H else H.set id (.row true sz rs)) else none
      | _ => none := rfl
theorem frz_agg (n : Nat) (H : Heap) (cs : List AV) : frz (n + 1) H (.agg cs) = (frz.frzL n H cs).map fun p => (.agg p.1, p.2) := rfl
theorem frz_tup (n : Nat) (H : Heap) (cs : List AV) : frz (n + 1) H (.tup cs) = (frz.frzL n H cs).map fun p => (.tup p.1, p.2) := rfl
theorem frz_fn (n : Nat) (H : Heap) (f : Fn) (a b : List AV) : frz (n + 1) H (.fn f a b) = (frz.frzL n H a).bind fun p => (frz.frzL n p.2 b).bind fun q => some (.fn f p.1 q.1, q.2) := rfl
theorem frz_ptr (n : Nat) (H : Heap) (id i off : Nat) : frz (n + 1) H (.ptr id i off) = match H.get id with
      | some (.row fz sz rs) => some (.pim rs i off, if fz then H else H.set id (.row true sz rs))
      | some (.box true cs) => if i = 0 then some (.pim [cs] 0 off, H) else none
      | some (.box false cs) => if i = 0 then (frz.frzL n H cs).bind fun p =>
          match p.2.get id with
          | some (.box false _) => some (.pim [p.1] 0 off, p.2.set id (.box true p.1))
          | _ => none
        else none
      | _ => none := rfl

/-! ### pairs that do not meet -/
theorem compat_ne {w1 w2 : Bool} {i j : Nat} (h : i ≠ j) : compat (some (w1, [i])) (some (w2, [j])) = true := by
  have : (i == j) = false := by simpa using h
  simp [compat, h, this]
theorem nne1 (n k : Nat) : (n = n + (k + 1)) = False := eq_false (by omega)
theorem nne2 (n k : Nat) : (n + (k + 1) = n) = False := eq_false (by omega)
theorem nne3 (n a b : Nat) : (n + a = n + b) = (a = b) := by simp
/-! ### what is stored -/
theorem sids_int (k : IntKind) (n : Int) : sids [.sc (.int k n)] = some [] := rfl
theorem sids_bool (b : Bool) : sids [.sc (.bool b)] = some [] := rfl
theorem sids_str (b : ByteArray) : sids [.sc (.string b)] = some [] := rfl
theorem sids_nils : sids [.sc (.slice none 0 0)] = some [] := rfl
theorem sids_nilf : sids [.sc .nilFunc] = some [] := rfl
theorem sids_lst (r : List (List AV)) : sids [.lst r] = some [] := rfl
theorem sids_pim (r : List (List AV)) (i o : Nat) : sids [.pim r i o] = some [] := rfl
theorem sids_sl (id off len : Nat) : sids [.sl id off len] = some [id] := rfl

/-! ### growing slices -/
theorem rowsOf_sl (H : Heap) (id off len : Nat) : rowsOf H (.sl id off len) = match H.get id with
    | some (.row _ _ rs) => if off + len ≤ rs.length then some ((rs.drop off).take len) else none
    | _ => none := rfl
theorem rowsOf_lst (H : Heap) (r : List (List AV)) : rowsOf H (.lst r) = some r := rfl
theorem rowsOf_nil (H : Heap) : rowsOf H (.sc (.slice none 0 0)) = some [] := rfl
theorem appA_nil (nid : Nat) (H : Heap) (sz bytes : Nat) (xs : List (List AV)) : appA nid H sz bytes (.sc (.slice none 0 0)) xs = if xs.length = 0 then some (.sc (.slice none 0 0), H)
    else if xs.length * bytes ≤ 140737488355328 ∧ allSz sz xs = true then some (.sl nid 0 xs.length, H.put nid (.row false sz xs)) else none := rfl
theorem appA_sl (nid : Nat) (H : Heap) (sz bytes id off len : Nat) (xs : List (List AV)) : appA nid H sz bytes (.sl id off len) xs = match H.get id with
    | some (.row false sz' rs) =>
      if sz' = sz ∧ off + len ≤ rs.length ∧ (len + xs.length) * bytes ≤ 140737488355328 ∧ allSz sz xs = true then
        some (.sl nid 0 (len + xs.length), (H.set id .dead).put nid (.row false sz ((rs.drop off).take len ++ xs)))
      else none
    | _ => none := rfl
theorem allSz_nil (sz : Nat) : allSz sz [] = true := rfl
theorem allSz_cons (sz : Nat) (r : List AV) (rs : List (List AV)) : allSz sz (r :: rs) = (r.length == sz && allSz sz rs) := rfl
/-- A slice that is made by appending. -/
def Rep (K : Heap) (sz : Nat) (S : AV) (rows : List (List AV)) : Prop := (S = .sc (.slice none 0 0) ∧ rows = []) ∨ ∃ id, S = .sl id 0 rows.length ∧ K.get id = some (.row false sz rows)
theorem Rep.mono {K K' : Heap} {sz : Nat} {S : AV} {rows : List (List AV)} (h : Rep K sz S rows) (hk : ∀ id, K.get id = some (.row false sz rows) → K'.get id = some (.row false sz rows)) : Rep K' sz S rows := by
  rcases h with h | ⟨id, h1, h2⟩
  · exact .inl h
  · exact .inr ⟨id, h1, hk id h2⟩

/-! ### one operand -/
def unA (op : UnOp) (v : AV) : Option AV := (toV v).bind fun v => (pureRun (Op.unary op v)).bind ofScalar
theorem uw_un {ft : FT} {e : Env} {H : Heap} {nid : Nat} {K : AV → Heap → Prop} (a : UnOp) (x : Operand) : VW ft nid e H (.un a x) K ↔ PW ((unA a (ev e x)).map fun v => (v, H)) K := by
  have : opC (callL ft) nid e H (.un a x) = (unA a (ev e x)).map fun v => (v, H) := by
    simp only [opC, opS, unA]
    cases toV (ev e x) <;> simp
    rename_i v
    cases pureRun (Op.unary a v) <;> simp
  unfold VW PW
  rw [this]
theorem unA_not (b : Bool) : unA .not (.sc (.bool b)) = some (.sc (.bool (!b))) := rfl

/-! ### lengths -/
def lenV (H : Heap) (kd : Nat) (v : AV) : Option (AV × Heap) := match v with
  | .mp id => if kd = 2 then match H.get id with
      | some (.mpb _ es) => some (.sc (.int .i64 (es.length : Int)), H)
      | _ => none
      else none
  | v => (lenOfA kd v).map fun (n : Nat) => (.sc (.int .i64 (n : Int)), H)
theorem lw_len {ft : FT} {e : Env} {H : Heap} {nid : Nat} {K : AV → Heap → Prop} (k : Nat) (x : Operand) : VW ft nid e H (.len k x) K ↔ PW (lenV H k (ev e x)) K := Iff.rfl
theorem lenV_lst (H : Heap) (rows : List (List AV)) : lenV H 0 (.lst rows) = some (.sc (.int .i64 (rows.length : Int)), H) := rfl
theorem lenV_sl (H : Heap) (id off len : Nat) : lenV H 0 (.sl id off len) = some (.sc (.int .i64 (len : Int)), H) := rfl
theorem lenV_nil (H : Heap) : lenV H 0 (.sc (.slice none 0 0)) = some (.sc (.int .i64 (0 : Int)), H) := rfl
theorem lenV_str (H : Heap) (s : ByteArray) : lenV H 1 (.sc (.string s)) = some (.sc (.int .i64 (s.size : Int)), H) := rfl
theorem lenV_mp (H : Heap) (id : Nat) : lenV H 2 (.mp id) = match H.get id with
      | some (.mpb _ es) => some (.sc (.int .i64 (es.length : Int)), H)
      | _ => none := rfl

/-! ### memory -/
theorem ofL_at (l : List AV) (t : Nat) : ofL l t = l.getD t .bad := rfl
theorem cells_agg (cs : List AV) : (AV.agg cs).cells = cs := rfl
theorem cells_sc (v : Value) : (AV.sc v).cells = [.sc v] := rfl
theorem cells_lst (r : List (List AV)) : (AV.lst r).cells = [.lst r] := rfl
theorem cells_sl (a b c : Nat) : (AV.sl a b c).cells = [.sl a b c] := rfl
theorem cells_ptr' (a b c : Nat) : (AV.ptr a b c).cells = [.ptr a b c] := rfl
theorem cells_pim' (r : List (List AV)) (b c : Nat) : (AV.pim r b c).cells = [.pim r b c] := rfl
theorem cells_fn (f : Fn) (a b : List AV) : (AV.fn f a b).cells = [.fn f a b] := rfl
theorem cells_mp (a : Nat) : (AV.mp a).cells = [.mp a] := rfl
theorem one_sc (v : Value) : (AV.sc v).one = true := rfl
theorem one_lst (r : List (List AV)) : (AV.lst r).one = true := rfl
theorem one_sl (a b c : Nat) : (AV.sl a b c).one = true := rfl
theorem one_ptr (a b c : Nat) : (AV.ptr a b c).one = true := rfl
theorem one_pim (r : List (List AV)) (b c : Nat) : (AV.pim r b c).one = true := rfl
theorem one_fn (f : Fn) (a b : List AV) : (AV.fn f a b).one = true := rfl
theorem one_mp (a : Nat) : (AV.mp a).one = true := rfl
theorem oneAll_nil : oneAll [] = true := rfl
theorem oneAll_cons (c : AV) (cs : List AV) : oneAll (c :: cs) = (c.one && oneAll cs) := rfl
theorem cellsAt_ptr (H : Heap) (id i off n : Nat) : cellsAt H (.ptr id i off) n = match H.get id with
    | some (.box _ cs) => if i = 0 ∧ off + n ≤ cs.length then some ((cs.drop off).take n) else none
    | some (.row _ _ rs) => match rs[i]? with
      | some r => if off + n ≤ r.length then some ((r.drop off).take n) else none
      | none => none
    | _ => none := rfl
theorem storeA_ptr (H : Heap) (id i off n : Nat) (v : AV) : storeA H (.ptr id i off) n v = if v.cells.length = n ∧ oneAll v.cells = true then
      match H.get id with
      | some (.box false cs) => if i = 0 ∧ off + n ≤ cs.length then some (H.set id (.box false (splice cs off v.cells))) else none
      | some (.row false _ _) => (frzCells H v.cells).bind fun (cs, H) =>
          match H.get id with
          | some (.row false sz rs) => match rs[i]? with
            | some r => if off + n ≤ r.length then some (H.set id (.row false sz (rs.set i (splice r off cs)))) else none
            | none => none
          | _ => none
      | _ => none
      else none := rfl

/-! ### what a function hands back -/
def RetP (rs : List ARes) (R : AV) (x : AExit) (e : Env) (H : Heap) : Prop := leaves x = true ∧ ∃ r0 H', resultsA H e rs = some r0 ∧ frz FZ H r0 = some (R, H')
def RetO (rs : List ARes) (R : AV) (H1 : Heap) (x : AExit) (e : Env) (H : Heap) : Prop := leaves x = true ∧ resultsA H e rs = some R ∧ H = H1
theorem call_p {ft : FT} {k : FuncId} {first caps args as' : List AV} {H H1 : Heap} {n : Nat} {rs : List ARes} {body : ACode} {R : AV} (hk : ft k = some (.go true n rs body)) (hz : frzCells H (first ++ args ++ caps) = some (as', H1)) (hl : as'.length ≤ n)
    (h : AW ft body (mkE n (ofL as')) (hx Heap.empty []) (RetP rs R)) : callL ft (.fn (.func k) first caps) args H = some (R, H1) := by
  rw [hx_nil] at h
  exact call_pure hk hz hl h
theorem call_o {ft : FT} {k : FuncId} {first caps args : List AV} {H H1 : Heap} {n : Nat} {rs : List ARes} {body : ACode} {R : AV} (hk : ft k = some (.go false n rs body)) (hl : (first ++ args ++ caps).length ≤ n)
    (h : AW ft body (mkE n (ofL (first ++ args ++ caps))) (hx H []) (RetO rs R H1)) : callL ft (.fn (.func k) first caps) args H = some (R, H1) := by
  rw [hx_nil] at h
  exact call_open hk hl h
theorem resT (H : Heap) (n : Nat) (f : Nat → AV) (t : Nat) (rs : List ARes) : (ARes.tmp t :: rs).mapM (resOf H (mkE n f)) = (rs.mapM (resOf H (mkE n f))).map fun vs => (if t < n then f t else .bad) :: vs := by
  rw [List.mapM_cons]
  simp only [resOf, mkE_get]
  cases rs.mapM (resOf H (mkE n f)) <;> rfl
theorem resC (H : Heap) (n : Nat) (f : Nat → AV) (t m : Nat) (g : Bool) (rs : List ARes) : (ARes.cell t g m :: rs).mapM (resOf H (mkE n f)) = ((cellsAt H (if t < n then f t else .bad) m).bind (pack g)).bind fun v => (rs.mapM (resOf H (mkE n f))).map fun vs => v :: vs := by
  rw [List.mapM_cons]
  simp only [resOf, mkE_get]
  cases (cellsAt H (if t < n then f t else .bad) m).bind (pack g)
  · rfl
  · cases rs.mapM (resOf H (mkE n f)) <;> rfl
theorem resN (H : Heap) (e : Env) : ([] : List ARes).mapM (resOf H e) = some [] := rfl
theorem RetP_iff {rs : List ARes} {R : AV} {x : AExit} {e : Env} {H : Heap} : RetP rs R x e H ↔ leaves x = true ∧ ∃ vs H', rs.mapM (resOf H e) = some vs ∧ frz FZ H (match vs with | [v] => v | vs => .tup vs) = some (R, H') := by
  unfold RetP resultsA
  constructor
  · rintro ⟨h, r0, H', h1, h2⟩
    rw [Option.map_eq_some_iff] at h1
    obtain ⟨vs, h1, rfl⟩ := h1
    exact ⟨h, vs, H', h1, h2⟩
  · rintro ⟨h, vs, H', h1, h2⟩
    exact ⟨h, _, H', by rw [h1]; rfl, h2⟩
def retV : List AV → AV
  | [v] => v
  | vs => .tup vs
theorem takeM {α β : Type} (g : α → β) (l : List α) : (l.map g).take l.length = l.map g := by
  rw [List.take_of_length_le (by simp)]
theorem retV1 (v : AV) : retV [v] = v := rfl
theorem retV2 (a b : AV) : retV [a, b] = .tup [a, b] := rfl
theorem retV3 (a b c : AV) : retV [a, b, c] = .tup [a, b, c] := rfl
theorem retV0 : retV [] = .tup [] := rfl
theorem frzFZ (H : Heap) (v : AV) : frz FZ H v = frz 24 H v := rfl
/-- What is handed back, to be reckoned. -/
theorem RetP_go {rs : List ARes} {R : AV} {x : AExit} {n : Nat} {f : Nat → AV} {H : Heap} : RetP rs R x (mkE n f) H ↔ leaves x = true ∧ ((rs.mapM (resOf H (mkE n f))).bind fun vs => (frz FZ H (retV vs)).map Prod.fst) = some R := by
  rw [RetP_iff]
  refine and_congr_right fun _ => ?_
  constructor
  · rintro ⟨vs, H', h1, h2⟩
    rw [h1, Option.bind_some, Option.map_eq_some_iff]
    exact ⟨_, h2, rfl⟩
  · intro h
    rw [Option.bind_eq_some_iff] at h
    obtain ⟨vs, h1, h2⟩ := h
    rw [Option.map_eq_some_iff] at h2
    obtain ⟨⟨v, H'⟩, h2, rfl⟩ := h2
    exact ⟨vs, H', h1, h2⟩
/-- One result in a slot. -/
theorem ret1 {t n : Nat} {f : Nat → AV} {R : AV} {H : Heap} {x : AExit} (hx : leaves x = true) (ht : t < n) (h : ∃ H', frz FZ H (f t) = some (R, H')) : RetP [.tmp t] R x (mkE n f) H :=
  let ⟨H', h⟩ := h
  RetP_iff.2 ⟨hx, [f t], H', by rw [resT, resN, if_pos ht]; rfl, h⟩
theorem ret2 {t u n : Nat} {f : Nat → AV} {R : AV} {H : Heap} {x : AExit} (hx : leaves x = true) (ht : t < n) (hu : u < n) (h : ∃ H', frz FZ H (.tup [f t, f u]) = some (R, H')) : RetP [.tmp t, .tmp u] R x (mkE n f) H :=
  let ⟨H', h⟩ := h
  RetP_iff.2 ⟨hx, [f t, f u], H', by rw [resT, resT, resN, if_pos ht, if_pos hu]; rfl, h⟩

set_option linter.defProp false
def vp := (⟨@kw_seq, @kw_skip, @kw_exit, @kw_ret, @kw_block, @kw_region, @kw_drawn0, @kw_drawn1, @kn_cons, @kn_nil, @kw_cond, @ko_cons, @ko_nil, @kd_cons, @kd_nil, @thenA_normal, @thenA_exit, @thenA_ret, @blockA_normal, @blockA_ret, @blockA_exit, @GW_none, @GW_tmp, @VW_mov, @VW_pick, @VW_alloc, @VW_box, @VW_build, @VW_bslice, @VW_load, @VW_store, @VW_nilck, @VW_bin, @VW_isnil, @VW_eqs, @VW_eqb, @uw_un, @VW_conv, @VW_stringish, @VW_tostr, @VW_mkfn, @VW_mkslice, @VW_slice, @VW_slstr, @VW_faddr, @VW_field, @VW_iaddr, @VW_index, @VW_ext, @lw_len, @VW_mx2, @VW_mn2, @VW_app, @VW_copy, @VW_mkmap, @VW_look, @VW_mput, @VW_call⟩ : _ ∧ _ ∧ _ ∧ _ ∧ _ ∧ _ ∧ _ ∧ _ ∧ _ ∧ _ ∧ _ ∧ _ ∧ _ ∧ _ ∧ _ ∧ _ ∧ _ ∧ _ ∧ _ ∧ _ ∧ _ ∧ _ ∧ _ ∧ _ ∧ _ ∧ _ ∧ _ ∧ _ ∧ _ ∧ _ ∧ _ ∧ _ ∧ _ ∧ _ ∧ _ ∧ _ ∧ _ ∧ _ ∧ _ ∧ _ ∧ _ ∧ _ ∧ _ ∧ _ ∧ _ ∧ _ ∧ _ ∧ _ ∧ _ ∧ _ ∧ _ ∧ _ ∧ _ ∧ _ ∧ _ ∧ _ ∧ _ ∧ _)
def vq0 := (⟨@decide_true, @decide_false, @GV_true, @GV_false, @GV_skip, @CV_bool, @putA_mkE, @putA_none, @ev_tmp, @ev_const, @ev_func, @upd_at, @ofC_int, @ofC_bool, @ofC_slice, @ofC_str, @ofC_nilF, @ofC_nilP, @ofC_nilM, @toI_sc, @toB_sc, @bin_add, @bin_sub, @bin_mul, @bin_lss, @bin_leq, @bin_gtr, @bin_geq, @bin_eql, @bin_neq, @lenV_lst, @lenV_sl, @lenV_nil, @lenV_str, @lenV_mp, @Nat.zero_add, @Nat.add_zero, @Nat.add_assoc, @Bool.true_eq_false, @Bool.false_eq_true⟩ : _ ∧ _ ∧ _ ∧ _ ∧ _ ∧ _ ∧ _ ∧ _ ∧ _ ∧ _ ∧ _ ∧ _ ∧ _ ∧ _ ∧ _ ∧ _ ∧ _ ∧ _ ∧ _ ∧ _ ∧ _ ∧ _ ∧ _ ∧ _ ∧ _ ∧ _ ∧ _ ∧ _ ∧ _ ∧ _ ∧ _ ∧ _ ∧ _ ∧ _ ∧ _ ∧ _ ∧ _ ∧ _ ∧ _ ∧ _)
def vq1 := (⟨@decide_eq_true_eq, @sids_int, @sids_bool, @sids_str, @sids_nils, @sids_nilf, @sids_lst, @sids_pim, @sids_sl, @compat_nil_l, @compat_nil_r, @compat_ne, @nne1, @nne2, @nne3, @not_false_eq_true, @true_and, @and_true, @Bool.and_true, @Bool.true_and, @hx_next, @hx_putN, @hx_putN0, @hx_getN, @hx_getN0, @hx_setN, @hx_setN0, @Heap.next_set, @hx_pad, @hxe_put, @hxe_get, @hxe_set, @hxe_next, @nAls_nil, @nAls_cons, @Heap.next_empty, @rowsOf_sl, @rowsOf_lst, @rowsOf_nil, @appA_nil⟩ : _ ∧ _ ∧ _ ∧ _ ∧ _ ∧ _ ∧ _ ∧ _ ∧ _ ∧ _ ∧ _ ∧ _ ∧ _ ∧ _ ∧ _ ∧ _ ∧ _ ∧ _ ∧ _ ∧ _ ∧ _ ∧ _ ∧ _ ∧ _ ∧ _ ∧ _ ∧ _ ∧ _ ∧ _ ∧ _ ∧ _ ∧ _ ∧ _ ∧ _ ∧ _ ∧ _ ∧ _ ∧ _ ∧ _ ∧ _)
def vq2 := (⟨@appA_sl, @allSz_nil, @allSz_cons, @unA_not, @Bool.not_true, @Bool.not_false, @Bool.bne_true, @Bool.bne_false, @Bool.not_eq_true', @frzCells_eq, @frz_sl, @frz_agg, @frz_tup, @frz_fn, @frz_ptr, @frz_lst, @frz_pim, @frz_int, @frz_bool, @frz_str, @frz_nils, @frz_nilf, @frzL_nil, @frzL_cons, @ofL_at, @cells_agg, @cells_sc, @cells_lst, @cells_sl, @cells_ptr', @cells_pim', @cells_fn, @cells_mp, @one_sc, @one_lst, @one_sl, @one_ptr, @one_pim, @one_fn, @one_mp⟩ : _ ∧ _ ∧ _ ∧ _ ∧ _ ∧ _ ∧ _ ∧ _ ∧ _ ∧ _ ∧ _ ∧ _ ∧ _ ∧ _ ∧ _ ∧ _ ∧ _ ∧ _ ∧ _ ∧ _ ∧ _ ∧ _ ∧ _ ∧ _ ∧ _ ∧ _ ∧ _ ∧ _ ∧ _ ∧ _ ∧ _ ∧ _ ∧ _ ∧ _ ∧ _ ∧ _ ∧ _ ∧ _ ∧ _ ∧ _)
def vq3 := (⟨@oneAll_nil, @oneAll_cons, @cellsAt_ptr, @storeA_ptr, @and_self, @Nat.le_refl⟩ : _ ∧ _ ∧ _ ∧ _ ∧ _ ∧ _)
def vr0 := @gt_iff_lt
def vr1 := @ge_iff_le
def vr2 := @PW_known
def vr3 := @PW_ite
def vr4 := @PW_none
def vr5 := @List.drop_zero
def vr6 := @List.drop_succ_cons
def vr7 := @List.take_succ_cons
def vr8 := @List.take_zero
def vr9 := @List.length_cons
def vr10 := @List.length_nil
def vr11 := @List.length_map
def vr12 := @List.map_cons
def vr13 := @List.map_nil
def vr14 := @Option.map_some
def vr15 := @Option.bind_some
def vr16 := @Option.map_none
def vr17 := @Option.bind_none
def vr18 := @if_true
def vr19 := @if_false
def vr20 := @beq_self_eq_true
def vr21 := @ne_eq
def vr22 := @List.nil_append
def vr23 := @List.cons_append
def vr24 := @List.all_nil
def vr25 := @List.all_cons
def vr26 := @List.replicate_succ
def vr27 := @List.replicate_zero
def vr28 := @List.append_nil
def vr29 := @List.getElem?_cons_zero
def vr30 := @List.getElem?_cons_succ
def vr31 := @List.set_cons_zero
def vr32 := @List.set_cons_succ
def vr33 := @List.getD_cons_zero
def vr34 := @List.getD_cons_succ
end Go.VI

/- VI, part P: what the library's entries come to: bytealg.Compare. -/
set_option linter.unusedVariables false
set_option linter.unusedSimpArgs false
namespace Go.VI

def cmpB : List Int → List Int → Int
  | x :: a, y :: b => if x < y then -1 else if y < x then 1 else cmpB a b
  | [], _ :: _ => -1
  | _ :: _, [] => 1
  | [], [] => 0
def byteR (l : List Int) : Bool := l.all fun n => decide (0 ≤ n) && decide (n < 256)
def cmpP : List AV → Option AV
  | [.lst r, .lst s] => (bytesOfRows r).bind fun l => (bytesOfRows s).bind fun k => if byteR l && byteR k then some (.sc (.int .i64 (cmpB l k))) else none
  | _ => none

theorem compareBytes_cmpB : ∀ (l k : List Int), byteR l = true → byteR k = true → Lib.compareBytes (Lib.bytesOf l) (Lib.bytesOf k) = cmpB l k
  | [], [], _, _ => rfl
  | [], _ :: _, _, _ => rfl
  | _ :: _, [], _, _ => rfl
  | x :: l, y :: k, hl, hk => by
    simp only [byteR, List.all_cons, Bool.and_eq_true, decide_eq_true_eq] at hl hk
    have ih := compareBytes_cmpB l k hl.2 hk.2
    have hx : (UInt8.ofNat x.toNat).toNat = x.toNat := by
      rw [UInt8.toNat_ofNat']; omega
    have hy : (UInt8.ofNat y.toNat).toNat = y.toNat := by
      rw [UInt8.toNat_ofNat']; omega
    have h1 : (UInt8.ofNat x.toNat < UInt8.ofNat y.toNat) ↔ x < y := by
      rw [UInt8.lt_iff_toNat_lt, hx, hy]; omega
    have h2 : (UInt8.ofNat y.toNat < UInt8.ofNat x.toNat) ↔ y < x := by
      rw [UInt8.lt_iff_toNat_lt, hx, hy]; omega
    simp only [Lib.bytesOf, List.map_cons, Lib.compareBytes, cmpB, h1, h2]
    simp only [Lib.bytesOf] at ih
    rw [ih]

section
variable {P : Program} {m : Mp} {F : Fz} {H : Heap} {w : World}
theorem run_bytesOfA (hI : Inv m F H w) {rows : List (List AV)} {v : Value} (hv : VF F (.lst rows) v) {l : List Int} (hl : bytesOfRows rows = some l) :
    (Extern.Bytes.bytesOf v).run P w = .ok ⟨(Lib.bytesOf l).toArray⟩ w := by
  obtain ⟨A, cap, rfl, hrows⟩ := rowsOf_sound hI (.fz hv) (rfl : rowsOf H (.lst rows) = some rows)
  obtain ⟨k1, k2, k3⟩ := bytesOf_spec rows l hl
  obtain ⟨us, hul, hucell, huone, hur, hua⟩ := hrows 1 k1
  cases A with
  | none =>
    have : us = [] := by
      cases us with
      | nil => rfl
      | cons u us =>
        obtain ⟨ad, h, _⟩ := hucell 0 u rfl
        cases h
    subst this
    have : l = [] := List.eq_nil_of_length_eq_zero (by simp at hul; omega)
    subst this
    rfl
  | some a =>
    have hcell : ∀ j x, l[j]? = some x → w.cell? (a.add j) = some (.int .u8 x) := fun j x hj => by
      have hjl := (List.getElem?_eq_some_iff.1 hj).1
      have hi2 : j < us.length := by omega
      obtain ⟨ad, had, _, hc⟩ := hucell j us[j] (List.getElem?_eq_getElem hi2)
      cases had
      rw [hc]
      have h5 := (hur.cell j _ 0 _ (k3 j _ hj) rfl).2
      have h7 : us.toArray.getD (j * 1 + 0) undef = us[j] := by simp [hi2]
      rw [h7] at h5
      rw [(vr_sc (m := fun _ => none) (.fz h5)).1]
    have := Lib.run_loadBytesX (P := P) w l a .empty hcell
    rw [k2] at this
    show (Extern.Bytes.loadBytes a rows.length .empty).run P w = _
    rw [this]
    congr 1
    apply ByteArray.ext
    simp

theorem cmp_ok {k : FuncId} {fn : Func} (hf : P.funcs[k]? = some fn) (hname : (fn.name == "runtime.NumGoroutine") = false) (hb : fn.body.isNone = true) (hn : Extern.findNext fn = none) (he : Extern.find fn = some Extern.BytealgCompare.compare) : PPrimOk P k cmpP := by
  intro args r h m F H w vs hI hsz hv
  unfold cmpP at h
  split at h
  rotate_left
  · cases h
  rename_i r1 s1
  simp only [Option.bind_eq_some_iff] at h
  obtain ⟨l, hl, k', hk, h⟩ := h
  split at h
  rotate_left
  · cases h
  rename_i hr
  cases h
  simp only [Bool.and_eq_true] at hr
  have h0 := run_bytesOfA (P := P) hI (hv 0 _ rfl) hl
  have h1 := run_bytesOfA (P := P) hI (hv 1 _ rfl) hk
  have hvs : vs = #[vs.getD 0 undef, vs.getD 1 undef] := by
    have hsz' : vs.size = 2 := hsz
    apply Array.ext
    · simp [hsz']
    · intro i h1 h2
      have h3 : i < 2 := by omega
      match i, h3 with
      | 0, _ => simp [hsz']
      | 1, _ => simp [hsz']
  have hrun : (Extern.BytealgCompare.compare vs).run P w = .ok (.int .i64 (cmpB l k')) w := by
    rw [hvs]
    change Sem.run P (do pure (goInt (Extern.BytealgCompare.cmp (← Extern.Bytes.bytesOf (vs.getD 0 undef)) (← Extern.Bytes.bytesOf (vs.getD 1 undef))))) w = _
    simp only [Sem.run_bind, h0, h1, Result.andThen_ok, Sem.run_pure, Lib.cmp_eq]
    have := compareBytes_cmpB l k' hr.1 hr.2
    show Result.ok (Value.int .i64 (Lib.compareBytes (Lib.bytesOf l) (Lib.bytesOf k'))) w = _
    rw [this]
  refine .inr ⟨.int .i64 (cmpB l k'), w, ?_, _, m, F, rfl, .fz (.sc rfl), hI, Ext.refl m F w, Grew.refl m H⟩
  rw [run_callFunc_extern hf hname hb hn he, hrun]
  rfl
end

theorem bytesOfRows_map : ∀ (l : List Int), bytesOfRows (l.map fun n => [.sc (.int .u8 n)]) = some l
  | [] => rfl
  | x :: l => by simp [bytesOfRows, bytesOfRows_map l]
end Go.VI

