/- VI, part X: reasoning forward: slots as functions, conditions behind code, calls. -/
import Derived.Test.YtkjeigdiojdfnaaVW
set_option linter.unusedVariables false
set_option linter.unusedSimpArgs false
namespace Go.VI

/-! ### slots as functions -/
def mkE (n : Nat) (f : Nat → AV) : Env := (List.range n).map f
def upd (f : Nat → AV) (t : Nat) (v : AV) : Nat → AV := fun s => if s = t then v else f s
def ofL (l : List AV) : Nat → AV := fun t => l.getD t .bad
theorem mkE_get (n : Nat) (f : Nat → AV) (t : Nat) : (mkE n f).getD t .bad = if t < n then f t else .bad := by
  unfold mkE
  rw [List.getD_eq_getElem?_getD, List.getElem?_map]
  by_cases h : t < n
  · simp [h]
  · simp [h]
theorem ev_tmp (n : Nat) (f : Nat → AV) (t : Nat) : ev (mkE n f) (.tmp t) = if t < n then f t else .bad := mkE_get n f t
theorem ev_const (e : Env) (v : Value) : ev e (.const v) = ofC v := rfl
theorem ev_func (e : Env) (k : FuncId) : ev e (.func k) = .fn (.func k) [] [] := rfl
theorem putA_mkE (n : Nat) (f : Nat → AV) (t : Nat) (v : AV) : putA (mkE n f) (some t) v = mkE n (upd f t v) := by
  apply List.ext_getElem?
  intro i
  simp only [putA, mkE, upd]
  by_cases hi : i < n
  · by_cases h : i = t
    · subst h
      rw [List.getElem?_set_self (by simpa using hi)]
      simp [hi, upd]
    · rw [List.getElem?_set_ne (Ne.symm h)]
      simp [hi, h, upd]
  · rw [List.getElem?_eq_none (by simp; omega), List.getElem?_eq_none (by simp; omega)]
theorem putA_none (e : Env) (v : AV) : putA e none v = e := rfl
theorem enterE_mkE (n : Nat) (args : List AV) (h : args.length ≤ n) : enterE n args = mkE n (ofL args) := by
  apply List.ext_getElem?
  intro i
  simp only [enterE, mkE, ofL]
  rcases Nat.lt_or_ge i args.length with h1 | h1
  · rw [List.getElem?_append_left h1]
    have : i < n := by omega
    simp [this, h1, ofL]
  · rw [List.getElem?_append_right h1, List.getElem?_replicate]
    by_cases hn : i < n
    · rw [if_pos (by omega)]
      simp [hn, List.getElem?_eq_none h1, ofL]
    · rw [if_neg (by omega), List.getElem?_eq_none (by simp; omega)]
theorem upd_at (f : Nat → AV) (t : Nat) (v : AV) (s : Nat) : upd f t v s = if s = t then v else f s := rfl

/-! ### conditions behind code -/
/-- The code comes to an end with Q. -/
def AW (ft : FT) (c : ACode) (e : Env) (H : Heap) (Q : AExit → Env → Heap → Prop) : Prop := ∃ x e' H', execL ft c e H = some (x, e', H') ∧ Q x e' H'
/-- The operations, in the text's order. -/
def OW (ft : FT) (os : List AOper) (e : Env) (H : Heap) (Q : Env → Heap → Prop) : Prop := ∃ e' H', opers (callL ft) os e H = some (e', H') ∧ Q e' H'
/-- The operations of a region of open order: 'fs' what was looked at so far. -/
def DW (ft : FT) (nid : Nat) (os : List AOper) (fs : List FP) (e : Env) (H : Heap) (Q : List FP → Env → Heap → Prop) : Prop := ∃ gs e' H', runs (callL ft) (pureV ft) nid os e H = some (gs, e', H') ∧ Q (fs ++ gs) e' H'

section
variable {ft : FT} {e : Env} {H : Heap} {Q : AExit → Env → Heap → Prop}
theorem AW.mono {c : ACode} {Q' : AExit → Env → Heap → Prop} (h : AW ft c e H Q) (hq : ∀ x e' H', Q x e' H' → Q' x e' H') : AW ft c e H Q' := by
  obtain ⟨x, e', H', h1, h2⟩ := h
  exact ⟨x, e', H', h1, hq _ _ _ h2⟩
theorem AW_skip : AW ft .skip e H Q ↔ Q .normal e H := by
  constructor
  · rintro ⟨x, e', H', h, hq⟩
    rw [execL_skip] at h
    cases h
    exact hq
  · intro h; exact ⟨_, _, _, execL_skip e H, h⟩
theorem AW_exit {id : Nat} : AW ft (.exit id) e H Q ↔ Q (.exit id) e H := by
  constructor
  · rintro ⟨x, e', H', h, hq⟩
    rw [execL_exit] at h
    cases h
    exact hq
  · intro h; exact ⟨_, _, _, execL_exit id e H, h⟩
theorem AW_ret : AW ft .ret e H Q ↔ Q .ret e H := by
  constructor
  · rintro ⟨x, e', H', h, hq⟩
    rw [execL_ret] at h
    cases h
    exact hq
  · intro h; exact ⟨_, _, _, execL_ret e H, h⟩
/-- What stands behind. -/
def thenA (R : Env → Heap → Prop) (Q : AExit → Env → Heap → Prop) : AExit → Env → Heap → Prop
  | .normal, e, H => R e H
  | x, e, H => Q x e H
theorem thenA_normal {R : Env → Heap → Prop} : thenA R Q .normal e H = R e H := rfl
theorem thenA_exit {R : Env → Heap → Prop} {id : Nat} : thenA R Q (.exit id) e H = Q (.exit id) e H := rfl
theorem thenA_ret {R : Env → Heap → Prop} : thenA R Q .ret e H = Q .ret e H := rfl
theorem AW_seq {a b : ACode} : AW ft (.seq a b) e H Q ↔ AW ft a e H (thenA (fun e H => AW ft b e H Q) Q) := by
  constructor
  · rintro ⟨x, e', H', h, hq⟩
    rw [execL_seq, Option.bind_eq_some_iff] at h
    obtain ⟨⟨y, e1, H1⟩, h1, h2⟩ := h
    refine ⟨y, e1, H1, h1, ?_⟩
    cases y with
    | normal => exact ⟨x, e', H', h2, hq⟩
    | exit id => cases h2; exact hq
    | ret => cases h2; exact hq
  · rintro ⟨y, e1, H1, h1, hq⟩
    cases y with
    | normal =>
      obtain ⟨x, e', H', h2, hq⟩ := hq
      exact ⟨x, e', H', by rw [execL_seq, h1]; exact h2, hq⟩
    | exit id => exact ⟨.exit id, e1, H1, by rw [execL_seq, h1]; rfl, hq⟩
    | ret => exact ⟨.ret, e1, H1, by rw [execL_seq, h1]; rfl, hq⟩
theorem AW_cond {c : Operand} {a b : ACode} {t : Bool} (h : ev e c = .sc (.bool t)) : AW ft (.cond c a b) e H Q ↔ if t = true then AW ft a e H Q else AW ft b e H Q := by
  have : execL ft (.cond c a b) e H = if t = true then execL ft a e H else execL ft b e H := by
    rw [execL_cond, h]
    rfl
  unfold AW
  rw [this]
  cases t <;> rfl
def blockA (id : Nat) (Q : AExit → Env → Heap → Prop) : AExit → Env → Heap → Prop
  | .exit j, e, H => if j = id then Q .normal e H else Q (.exit j) e H
  | x, e, H => Q x e H
theorem blockA_normal {id : Nat} : blockA id Q .normal e H = Q .normal e H := rfl
theorem blockA_ret {id : Nat} : blockA id Q .ret e H = Q .ret e H := rfl
theorem blockA_exit {id j : Nat} : blockA id Q (.exit j) e H = if j = id then Q .normal e H else Q (.exit j) e H := rfl
theorem AW_block {id : Nat} {c : ACode} : AW ft (.block id c) e H Q ↔ AW ft c e H (blockA id Q) := by
  constructor
  · rintro ⟨x, e', H', h, hq⟩
    rw [execL_block, Option.map_eq_some_iff] at h
    obtain ⟨⟨y, e1, H1⟩, h1, h2⟩ := h
    simp only [Prod.mk.injEq] at h2
    obtain ⟨rfl, rfl, rfl⟩ := h2
    refine ⟨y, e1, H1, h1, ?_⟩
    cases y with
    | normal => exact hq
    | ret => exact hq
    | exit j =>
      rw [blockA_exit]
      by_cases hj : j = id
      · subst hj
        rw [if_pos rfl] at hq ⊢
        exact hq
      · rw [if_neg hj]
        rw [if_neg (by simpa using hj)] at hq
        exact hq
  · rintro ⟨y, e1, H1, h1, hq⟩
    refine ⟨if y = .exit id then .normal else y, e1, H1, by rw [execL_block, h1]; rfl, ?_⟩
    cases y with
    | normal => exact hq
    | ret => exact hq
    | exit j =>
      rw [blockA_exit] at hq
      by_cases hj : j = id
      · subst hj
        rw [if_pos rfl] at hq ⊢
        exact hq
      · rw [if_neg hj] at hq
        rw [if_neg (by simpa using hj)]
        exact hq
/-- One way through the loop. -/
theorem AW_loop {c : ACode} : AW ft (.loop c) e H Q ↔ AW ft c e H (thenA (fun e H => AW ft (.loop c) e H Q) Q) := by
  constructor
  · rintro ⟨x, e', H', h, hq⟩
    rw [execL_loop, Option.bind_eq_some_iff] at h
    obtain ⟨⟨y, e1, H1⟩, h1, h2⟩ := h
    refine ⟨y, e1, H1, h1, ?_⟩
    cases y with
    | normal => exact ⟨x, e', H', h2, hq⟩
    | exit id => cases h2; exact hq
    | ret => cases h2; exact hq
  · rintro ⟨y, e1, H1, h1, hq⟩
    cases y with
    | normal =>
      obtain ⟨x, e', H', h2, hq⟩ := hq
      exact ⟨x, e', H', by rw [execL_loop, h1]; exact h2, hq⟩
    | exit id => exact ⟨.exit id, e1, H1, by rw [execL_loop, h1]; rfl, hq⟩
    | ret => exact ⟨.ret, e1, H1, by rw [execL_loop, h1]; rfl, hq⟩
/-- A loop with an invariant and a number that falls. -/
theorem AW_inv {c : ACode} (I : Nat → Env → Heap → Prop) (hI : ∀ n e H, I n e H → AW ft c e H (thenA (fun e H => ∃ m, m < n ∧ I m e H) Q)) (n : Nat) (h : I n e H) : AW ft (.loop c) e H Q := by
  induction n using Nat.strongRecOn generalizing e H with
  | _ n ih =>
    rw [AW_loop]
    refine (hI n e H h).mono fun x e' H' hx => ?_
    cases x with
    | normal =>
      obtain ⟨m, hm, h'⟩ := hx
      exact ih m hm h'
    | exit id => exact hx
    | ret => exact hx

theorem AW_region {os : List AOper} : AW ft (.region os false []) e H Q ↔ OW ft os e H (Q .normal) := by
  constructor
  · rintro ⟨x, e', H', h, hq⟩
    rw [execL_region, Option.map_eq_some_iff] at h
    obtain ⟨⟨e1, H1⟩, h1, h2⟩ := h
    simp only [Prod.mk.injEq] at h2
    obtain ⟨rfl, rfl, rfl⟩ := h2
    exact ⟨e1, H1, h1, hq⟩
  · rintro ⟨e1, H1, h1, hq⟩
    exact ⟨.normal, e1, H1, by rw [execL_region, h1]; rfl, hq⟩
/-- No two meet. -/
def okP (prs : List (Nat × Nat)) (fs : List FP) : Bool := prs.all fun p => compat (fs.getD p.1 none) (fs.getD p.2 none)
theorem AW_drawn {os : List AOper} {prs : List (Nat × Nat)} : AW ft (.region os true prs) e H Q ↔ DW ft H.next os [] e (H.pad (nAls os)) (fun fs e H => okP prs fs = true ∧ Q .normal e H) := by
  constructor
  · rintro ⟨x, e', H', h, hq⟩
    rw [execL_drawn, Option.map_eq_some_iff] at h
    obtain ⟨⟨e1, H1⟩, h1, h2⟩ := h
    cases h2
    simp only [drawn, Option.bind_eq_some_iff] at h1
    obtain ⟨⟨fs, e2, H2⟩, h1, h2⟩ := h1
    split at h2
    · cases h2
      exact ⟨fs, _, _, h1, ‹_›, hq⟩
    · cases h2
  · rintro ⟨fs, e1, H1, h1, h2, hq⟩
    refine ⟨.normal, e1, H1, ?_, hq⟩
    rw [execL_drawn]
    simp only [drawn, h1, Option.bind_some]
    rw [if_pos (by simpa [okP] using h2)]
    rfl

theorem OW_nil {Q : Env → Heap → Prop} : OW ft [] e H Q ↔ Q e H := by
  constructor
  · rintro ⟨e', H', h, hq⟩
    cases h
    exact hq
  · intro h; exact ⟨e, H, rfl, h⟩
/-- The value of an operation. -/
def VW (ft : FT) (nid : Nat) (e : Env) (H : Heap) (o : AOp) (K : AV → Heap → Prop) : Prop := ∃ v H', opC (callL ft) nid e H o = some (v, H') ∧ K v H'
def GW (g : Option (Option Nat × Bool)) (e : Env) (yes no : Prop) : Prop := knownA e g = true ∧ if wantA e g = true then yes else no
theorem GW_none {yes no : Prop} : GW none e yes no ↔ yes := by simp [GW, knownA, wantA]
theorem GW_some {t : Nat} {b c : Bool} {yes no : Prop} (h : ev e (.tmp t) = .sc (.bool c)) : GW (some (some t, b)) e yes no ↔ if c = b then yes else no := by
  have h' : e.getD t .bad = .sc (.bool c) := h
  unfold GW knownA wantA
  simp only [h']
  cases b <;> cases c <;> simp
theorem OW_cons {o : AOper} {os : List AOper} {Q : Env → Heap → Prop} : OW ft (o :: os) e H Q ↔ GW o.guard e (VW ft H.next e H o.op fun v H' => OW ft os (putA e o.dst v) H' Q) (OW ft os (putA e o.dst (.tup [])) H Q) := by
  constructor
  · rintro ⟨e', H', h, hq⟩
    simp only [opers, Option.bind_eq_some_iff] at h
    obtain ⟨⟨e1, H1⟩, h1, h2⟩ := h
    unfold oper at h1
    split at h1
    rotate_left
    · cases h1
    rename_i hk
    refine ⟨hk, ?_⟩
    split at h1
    · rename_i hw
      rw [if_pos hw]
      simp only [Option.map_eq_some_iff, Prod.mk.injEq] at h1
      obtain ⟨⟨v, K⟩, h1, rfl, rfl⟩ := h1
      exact ⟨v, K, h1, e', H', h2, hq⟩
    · rename_i hw
      rw [if_neg hw]
      cases h1
      exact ⟨e', H', h2, hq⟩
  · rintro ⟨hk, h⟩
    split at h
    · rename_i hw
      obtain ⟨v, K, h1, e', H', h2, hq⟩ := h
      refine ⟨e', H', ?_, hq⟩
      simp only [opers, oper, if_pos hk, if_pos hw, h1, Option.map_some, Option.bind_some]
      exact h2
    · rename_i hw
      obtain ⟨e', H', h2, hq⟩ := h
      refine ⟨e', H', ?_, hq⟩
      simp only [opers, oper, if_pos hk, if_neg hw, Option.bind_some]
      exact h2
theorem DW_nil {nid : Nat} {fs : List FP} {Q : List FP → Env → Heap → Prop} : DW ft nid [] fs e H Q ↔ Q fs e H := by
  constructor
  · rintro ⟨gs, e', H', h, hq⟩
    cases h
    simpa using hq
  · intro h; exact ⟨[], e, H, rfl, by simpa using h⟩
theorem DW_cons {nid : Nat} {o : AOper} {os : List AOper} {fs : List FP} {Q : List FP → Env → Heap → Prop} : DW ft nid (o :: os) fs e H Q ↔
    GW o.guard e (VW ft nid e H o.op fun v H' => DW ft (nid + nAl o) os (fs ++ [fpS (pureV ft) nid e o.op]) (putA e o.dst v) H' Q) (DW ft (nid + nAl o) os (fs ++ [some (false, [])]) (putA e o.dst (.tup [])) H Q) := by
  constructor
  · rintro ⟨gs, e', H', h, hq⟩
    simp only [runs, Option.bind_eq_some_iff, Option.map_eq_some_iff, Prod.mk.injEq] at h
    obtain ⟨⟨e1, H1⟩, h1, ⟨gs', e2, H2⟩, h2, rfl, rfl, rfl⟩ := h
    unfold oper at h1
    split at h1
    rotate_left
    · cases h1
    rename_i hk
    refine ⟨hk, ?_⟩
    split at h1
    · rename_i hw
      rw [if_pos hw]
      simp only [Option.map_eq_some_iff, Prod.mk.injEq] at h1
      obtain ⟨⟨v, K⟩, h1, rfl, rfl⟩ := h1
      refine ⟨v, K, h1, gs', e2, H2, h2, ?_⟩
      have : fpO (pureV ft) nid e o = fpS (pureV ft) nid e o.op := by simp only [fpO, if_pos hw]
      rw [this] at hq
      simpa using hq
    · rename_i hw
      rw [if_neg hw]
      cases h1
      refine ⟨gs', e2, H2, h2, ?_⟩
      have : fpO (pureV ft) nid e o = some (false, []) := by simp only [fpO, if_neg hw]
      rw [this] at hq
      simpa using hq
  · rintro ⟨hk, h⟩
    split at h
    · rename_i hw
      obtain ⟨v, K, h1, gs, e', H', h2, hq⟩ := h
      refine ⟨fpO (pureV ft) nid e o :: gs, e', H', ?_, ?_⟩
      · simp only [runs, oper, if_pos hk, if_pos hw, h1, Option.map_some, Option.bind_some]
        rw [h2]
        rfl
      · have : fpO (pureV ft) nid e o = fpS (pureV ft) nid e o.op := by simp only [fpO, if_pos hw]
        rw [this]
        simpa using hq
    · rename_i hw
      obtain ⟨gs, e', H', h2, hq⟩ := h
      refine ⟨fpO (pureV ft) nid e o :: gs, e', H', ?_, ?_⟩
      · simp only [runs, oper, if_pos hk, if_neg hw, Option.bind_some]
        rw [h2]
        rfl
      · have : fpO (pureV ft) nid e o = some (false, []) := by simp only [fpO, if_neg hw]
        rw [this]
        simpa using hq

theorem VW_op {nid : Nat} {o : AOp} {K : AV → Heap → Prop} {v : AV} {H' : Heap} (h : opC (callL ft) nid e H o = some (v, H')) : VW ft nid e H o K ↔ K v H' := by
  constructor
  · rintro ⟨v', H'', h1, hk⟩
    rw [h] at h1
    cases h1
    exact hk
  · intro hk; exact ⟨v, H', h, hk⟩
/-- A call's value. -/
def KW (ft : FT) (f : AV) (args : List AV) (H : Heap) (K : AV → Heap → Prop) : Prop := ∃ v H', callL ft f args H = some (v, H') ∧ K v H'
theorem VW_call {nid : Nat} {f : Operand} {args : List Operand} {K : AV → Heap → Prop} : VW ft nid e H (.call f args) K ↔ KW ft (ev e f) (args.map (ev e)) H K := Iff.rfl
theorem KW_of {f : AV} {args : List AV} {K : AV → Heap → Prop} {v : AV} {H' : Heap} (h : callL ft f args H = some (v, H')) : KW ft f args H K ↔ K v H' := by
  constructor
  · rintro ⟨v', H'', h1, hk⟩
    rw [h] at h1
    cases h1
    exact hk
  · intro hk; exact ⟨v, H', h, hk⟩
end

/-! ### calls -/
theorem callL_fn (ft : FT) (k : FuncId) (first caps args : List AV) (H : Heap) : callL ft (.fn (.func k) first caps) args H = callF ft (execL ft) k (first ++ args ++ caps) H := rfl
theorem call_pure {ft : FT} {k : FuncId} {first caps args as' : List AV} {H H1 : Heap} {n : Nat} {rs : List ARes} {body : ACode} {R : AV} (hk : ft k = some (.go true n rs body)) (hz : frzCells H (first ++ args ++ caps) = some (as', H1)) (hl : as'.length ≤ n)
    (h : AW ft body (mkE n (ofL as')) Heap.empty fun x e Hc => leaves x = true ∧ ∃ r0 Hc', resultsA Hc e rs = some r0 ∧ frz FZ Hc r0 = some (R, Hc')) : callL ft (.fn (.func k) first caps) args H = some (R, H1) := by
  obtain ⟨x, e', Hc, h1, hx, r0, Hc', h2, h3⟩ := h
  rw [callL_fn]
  unfold callF
  simp only [hk, hz, Option.bind_some, enterE_mkE n as' hl, h1, hx, if_true, h2, h3, Option.map_some]
theorem call_open {ft : FT} {k : FuncId} {first caps args : List AV} {H H1 : Heap} {n : Nat} {rs : List ARes} {body : ACode} {R : AV} (hk : ft k = some (.go false n rs body)) (hl : (first ++ args ++ caps).length ≤ n)
    (h : AW ft body (mkE n (ofL (first ++ args ++ caps))) H fun x e Hc => leaves x = true ∧ resultsA Hc e rs = some R ∧ Hc = H1) : callL ft (.fn (.func k) first caps) args H = some (R, H1) := by
  obtain ⟨x, e', Hc, h1, hx, h2, rfl⟩ := h
  rw [callL_fn]
  unfold callF
  simp only [hk, enterE_mkE n _ hl, h1, Option.bind_some, hx, if_true, h2, Option.map_some]
theorem call_pprim {ft : FT} {k : FuncId} {first caps args as' : List AV} {H H1 : Heap} {p : List AV → Option AV} {R : AV} (hk : ft k = some (.pprim p)) (hz : frzCells H (first ++ args ++ caps) = some (as', H1)) (h : p as' = some R) :
    callL ft (.fn (.func k) first caps) args H = some (R, H1) := by
  rw [callL_fn]
  unfold callF
  simp only [hk, hz, Option.bind_some, h, Option.map_some]
end Go.VI
