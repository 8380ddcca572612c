import Derived.Test.YtkjeigdiojdfnaaS5
import Derived.OpenShut
/- What the claim hangs on, part 6: CJ CK CL CM CN RH CQ CR CS RI RJ. -/
set_option linter.unusedVariables false
set_option linter.unusedSimpArgs false
namespace Go.VI
def refX (kf : NodeM → Int) (nd : Int → NodeM × Int) : Nat → Int → List StepM × Int
  | 0, _ => ([], 130)
  | d + 1, ref =>
    if (nd ref).2 ≠ 0 then ([], (nd ref).2)
    else if (nd ref).1.leaf = false ∧ (nd ref).1.kids.length = 0 then ([], 131)
    else if (nd ref).1.leaf then ([⟨ref, (nd ref).1, kf (nd ref).1⟩], 0)
    else match (nd ref).1.kids[(kf (nd ref).1).toNat]? with
      | some x => if (refX kf nd d x.ref).2 ≠ 0 then ([], (refX kf nd d x.ref).2) else (⟨ref, (nd ref).1, kf (nd ref).1⟩ :: (refX kf nd d x.ref).1, 0)
      | none => ([], 130)
theorem downX_refX (kf : NodeM → Int) (nd : Int → NodeM × Int) : ∀ (d : Nat) (ref : Int) (acc : List StepM),
    downX kf nd d ref acc = if (refX kf nd d ref).2 ≠ 0 then ([], (refX kf nd d ref).2) else (acc ++ (refX kf nd d ref).1, 0)
  | 0, ref, acc => by simp [downX, refX]
  | d + 1, ref, acc => by
    rw [downX, refX]
    split
    · rename_i h; simp [h]
    · split
      · simp
      · split
        · simp
        · cases hx : (nd ref).1.kids[(kf (nd ref).1).toNat]? with
          | none => simp
          | some x =>
            simp only
            rw [downX_refX kf nd d x.ref]
            by_cases h : (refX kf nd d x.ref).2 = 0
            · simp [h]
            · simp [h]
theorem refX_err (kf : NodeM → Int) (nd : Int → NodeM × Int) : ∀ (d : Nat) (ref : Int), (refX kf nd d ref).2 ≠ 0 → (refX kf nd d ref).1 = []
  | 0, ref, _ => rfl
  | d + 1, ref, h => by
    rw [refX] at h ⊢
    split
    · rfl
    · split
      · rfl
      · split
        · simp_all
        · split
          · split
            · rfl
            · simp_all
          · rfl
theorem wayX_refX (kf : NodeM → Int) (nd : Int → NodeM × Int) (root : Int) : wayX kf nd root = refX kf nd 12 root := by
  rw [wayX, downX_refX]
  split
  · rename_i h
    rw [← refX_err kf nd 12 root h]
  · rename_i h
    have h : (refX kf nd 12 root).2 = 0 := by simpa using h
    rw [List.nil_append, ← h]
theorem refX_mono (kf : NodeM → Int) (nd : Int → NodeM × Int) : ∀ (d : Nat) (ref : Int), (refX kf nd d ref).2 = 0 → refX kf nd (d + 1) ref = refX kf nd d ref
  | 0, ref, h => by simp [refX] at h
  | d + 1, ref, h => by
    rw [refX] at h
    rw [refX]
    conv => rhs; rw [refX]
    split
    · rfl
    · rename_i h1
      rw [if_neg h1] at h
      split
      · rfl
      · rename_i h2
        rw [if_neg h2] at h
        split
        · rfl
        · rename_i h3
          rw [if_neg h3] at h
          cases hx : (nd ref).1.kids[(kf (nd ref).1).toNat]? with
          | none => rfl
          | some x =>
            rw [hx] at h
            simp only at h ⊢
            have h0 : (refX kf nd d x.ref).2 = 0 := by
              by_cases h0 : (refX kf nd d x.ref).2 = 0
              · exact h0
              · rw [if_pos h0] at h; exact absurd h h0
            rw [refX_mono kf nd d x.ref h0]
theorem refX_12 {kf : NodeM → Int} {nd : Int → NodeM × Int} {d : Nat} {ref : Int} {st : List StepM} (h : refX kf nd d ref = (st, 0)) (hd : d ≤ 12) : wayX kf nd ref = (st, 0) := by
  rw [wayX_refX]
  have key : ∀ j, refX kf nd (d + j) ref = (st, 0) := by
    intro j
    induction j with
    | zero => exact h
    | succ j ih => rw [← Nat.add_assoc, refX_mono kf nd (d + j) ref (by rw [ih]), ih]
  have : refX kf nd 12 ref = refX kf nd (d + (12 - d)) ref := by congr 1; omega
  rw [this, key]
/-- A source that tells an error at one number. -/
def ndX (nd : Int → NodeM × Int) (b r : Int) : NodeM × Int := if r = b then (noNode, 10) else nd r
theorem refX_fail (kf : NodeM → Int) (nd : Int → NodeM × Int) (b : Int) : ∀ (d : Nat) (ref : Int), (refX kf (ndX nd b) d ref = ([], 10)) ∨ refX kf (ndX nd b) d ref = refX kf nd d ref
  | 0, _ => .inr rfl
  | d + 1, ref => by
    by_cases hb : ref = b
    · left
      rw [refX]
      simp [ndX, hb]
    · have hn : ndX nd b ref = nd ref := by simp [ndX, hb]
      rw [refX, refX, hn]
      split
      · exact .inr rfl
      · split
        · exact .inr rfl
        · split
          · exact .inr rfl
          · cases hx : (nd ref).1.kids[(kf (nd ref).1).toNat]? with
            | none => exact .inr rfl
            | some x =>
              simp only
              rcases refX_fail kf nd b d x.ref with h | h
              · left; rw [h]; simp
              · right; rw [h]
theorem wayX_fail (kf : NodeM → Int) (nd : Int → NodeM × Int) (b root : Int) : wayX kf (ndX nd b) root = ([], 10) ∨ wayX kf (ndX nd b) root = wayX kf nd root := by
  simp only [wayX_refX]
  exact refX_fail kf nd b 12 root
inductive Tc (nd : Int → NodeM × Int) : Nat → Int → List ItemM → Prop
  | leaf {d : Nat} {ref : Int} {n : NodeM} (hn : nd ref = (n, 0)) (hl : n.leaf = true) : Tc nd (d + 1) ref n.items
  | branch {d : Nat} {ref : Int} {n : NodeM} {its : List (List ItemM)} (hn : nd ref = (n, 0)) (hl : n.leaf = false) (hk : 2 ≤ n.kids.length) (hi : its.length = n.kids.length) (hne : ∀ y ∈ its, y ≠ [])
      (h : ∀ (k : Nat) (y : List ItemM) (x : KidM), its[k]? = some y → n.kids[k]? = some x → Tc nd d x.ref y) : Tc nd (d + 1) ref its.flatten
theorem Tr_ne {l : List NamedM} {d : Nat} {p : PlaceM} {D : Int} {its : List ItemM} (h : Tr l d p D its) : 2 ≤ p.deep → its ≠ [] := by
  induction h with
  | leaf hn hl hk ho he =>
    intro h1
    rcases he with he | he
    · omega
    · exact he
  | @branch d p n D its hn hl hk ho hi h ih =>
    intro h1 h2
    have h0 : 0 < its.length := by omega
    have := ih 0 _ (List.getElem?_eq_getElem h0) (by show 2 ≤ p.deep + 1; omega)
    exact this (List.flatten_eq_nil_iff.1 h2 _ (List.getElem_mem h0))
theorem Tr_Tc {l : List NamedM} {d : Nat} {p : PlaceM} {D : Int} {its : List ItemM} (h : Tr l d p D its) : 1 ≤ p.deep → Tc (nodeM l) d p.ref its := by
  induction h with
  | leaf hn hl hk ho he => exact fun _ => .leaf hn hl
  | @branch d p n D its hn hl hk ho hi h ih =>
    intro h1
    refine .branch hn hl hk hi (fun y hy => ?_) (fun k y x hy hx => ?_)
    · obtain ⟨k, hk', rfl⟩ := List.mem_iff_getElem.1 hy
      exact Tr_ne (h k _ (List.getElem?_eq_getElem hk')) (by show 2 ≤ p.deep + 1; omega)
    · have := ih k y hy (by show 1 ≤ p.deep + 1; omega)
      have e : (kidM p n k).ref = x.ref := by simp [kidM, hx]
      rwa [e] at this
/-- Where a way stands: the number of its item among all; in the leaf it may be one off. -/
inductive PosI (nd : Int → NodeM × Int) : Nat → Int → List ItemM → List StepM → Int → Prop
  | leaf {d : Nat} {ref : Int} {n : NodeM} (hn : nd ref = (n, 0)) (hl : n.leaf = true) {k : Int} (h0 : -1 ≤ k) (h1 : k ≤ n.items.length) : PosI nd (d + 1) ref n.items [⟨ref, n, k⟩] k
  | branch {d : Nat} {ref : Int} {n : NodeM} {its : List (List ItemM)} (hn : nd ref = (n, 0)) (hl : n.leaf = false) (hk : 2 ≤ n.kids.length) (hi : its.length = n.kids.length) (hne : ∀ y ∈ its, y ≠ [])
      (h : ∀ (k : Nat) (y : List ItemM) (x : KidM), its[k]? = some y → n.kids[k]? = some x → Tc nd d x.ref y) {j : Nat} {y : List ItemM} {x : KidM} (hy : its[j]? = some y) (hx : n.kids[j]? = some x) {ws : List StepM} {i : Int} (hp : PosI nd d x.ref y ws i) :
      PosI nd (d + 1) ref its.flatten (⟨ref, n, j⟩ :: ws) (((its.take j).flatten.length : Int) + i)
theorem flat_at {α : Type} {its : List (List α)} {j : Nat} {y : List α} (h : its[j]? = some y) : its.flatten = (its.take j).flatten ++ y ++ (its.drop (j + 1)).flatten := by
  obtain ⟨hj, rfl⟩ := List.getElem?_eq_some_iff.1 h
  conv => lhs; rw [← List.take_append_drop j its, List.flatten_append, List.drop_eq_getElem_cons hj, List.flatten_cons]
  rw [List.append_assoc]
theorem PosI_ne {nd : Int → NodeM × Int} {d : Nat} {ref : Int} {its : List ItemM} {ws : List StepM} {i : Int} (h : PosI nd d ref its ws i) : ws ≠ [] := by cases h <;> simp
/-- The leaf's step. -/
theorem PosI_last {nd : Int → NodeM × Int} {d : Nat} {ref : Int} {its : List ItemM} {ws : List StepM} {i : Int} (h : PosI nd d ref its ws i) :
    ∃ s A B, ws.getLast? = some s ∧ s.n.leaf = true ∧ -1 ≤ s.k ∧ s.k ≤ s.n.items.length ∧ its = A ++ s.n.items ++ B ∧ i = (A.length : Int) + s.k := by
  induction h with
  | @leaf d ref n hn hl k h0 h1 => exact ⟨_, [], [], rfl, hl, h0, h1, by simp, by simp⟩
  | @branch d ref n its hn hl hk hi hne h j y x hy hx ws i hp ih =>
    obtain ⟨s, A, B, g1, g2, g3, g4, g5, g6⟩ := ih
    refine ⟨s, (its.take j).flatten ++ A, B ++ (its.drop (j + 1)).flatten, ?_, g2, g3, g4, ?_, ?_⟩
    · rw [List.getLast?_cons, g1]; rfl
    · rw [flat_at hy, g5]; simp
    · rw [g6]; simp; omega
theorem hereM_at {nd : Int → NodeM × Int} {d : Nat} {ref : Int} {its : List ItemM} {ws : List StepM} {i : Int} (h : PosI nd d ref its ws i) {s : StepM} (hs : ws.getLast? = some s) (h0 : 0 ≤ s.k) (h1 : s.k < s.n.items.length) :
    ∃ (m : Nat) (x : ItemM), i = m ∧ its[m]? = some x ∧ hereM ws = ((x, true), ws) := by
  obtain ⟨s', A, B, g1, g2, g3, g4, g5, g6⟩ := PosI_last h
  rw [hs] at g1
  cases g1
  obtain ⟨k, hk⟩ : ∃ k : Nat, s.k = k := ⟨s.k.toNat, by omega⟩
  have hkl : k < s.n.items.length := by omega
  refine ⟨A.length + k, s.n.items[k], by omega, ?_, ?_⟩
  · rw [g5, List.append_assoc, List.getElem?_append_right (by omega), List.getElem?_append_left (by omega), Nat.add_sub_cancel_left, List.getElem?_eq_getElem hkl]
  · unfold hereM
    rw [hs]
    simp only
    rw [if_pos ⟨h0, h1⟩, hk, Int.toNat_natCast, List.getElem?_eq_getElem hkl]
theorem hereM_off {ws : List StepM} {s : StepM} (hs : ws.getLast? = some s) (h : ¬ (0 ≤ s.k ∧ s.k < s.n.items.length)) : hereM ws = ((nilI, false), []) := by
  unfold hereM
  rw [hs]
  simp only
  rw [if_neg h]
theorem refX_leaf {kf : NodeM → Int} {nd : Int → NodeM × Int} {d : Nat} {ref : Int} {n : NodeM} (hn : nd ref = (n, 0)) (hl : n.leaf = true) : refX kf nd (d + 1) ref = ([⟨ref, n, kf n⟩], 0) := by
  rw [refX, hn]
  simp [hl]
theorem refX_branch {kf : NodeM → Int} {nd : Int → NodeM × Int} {d : Nat} {ref : Int} {n : NodeM} (hn : nd ref = (n, 0)) (hl : n.leaf = false) {j : Nat} (hj : kf n = j) {x : KidM} (hk : n.kids[j]? = some x) {st : List StepM} (h : refX kf nd d x.ref = (st, 0)) :
    refX kf nd (d + 1) ref = (⟨ref, n, j⟩ :: st, 0) := by
  rw [refX, hn]
  have h0 : ¬ n.kids.length = 0 := by have := (List.getElem?_eq_some_iff.1 hk).1; omega
  simp [hl, h0, hj, hk, h]
/-- The first way, and the last one. -/
theorem Tc_first {nd : Int → NodeM × Int} {d : Nat} {ref : Int} {its : List ItemM} (h : Tc nd d ref its) : ∃ ws, refX (edgeK false) nd d ref = (ws, 0) ∧ PosI nd d ref its ws 0 ∧ ∀ s, ws.getLast? = some s → s.k = 0 ∧ (its ≠ [] → s.n.items ≠ []) := by
  induction h with
  | @leaf d ref n hn hl => exact ⟨_, refX_leaf hn hl, .leaf hn hl (by simp [edgeK]) (by simp [edgeK]), fun s hs => by cases hs; exact ⟨rfl, fun h => h⟩⟩
  | @branch d ref n its hn hl hk hi hne h ih =>
    have h0 : 0 < its.length := by omega
    have h1 : 0 < n.kids.length := by omega
    obtain ⟨ws, g1, g2, g3⟩ := ih 0 _ _ (List.getElem?_eq_getElem h0) (List.getElem?_eq_getElem h1)
    refine ⟨_, refX_branch hn hl (j := 0) (by simp [edgeK]) (List.getElem?_eq_getElem h1) g1, ?_, fun s hs => ?_⟩
    · have := PosI.branch hn hl hk hi hne h (j := 0) (List.getElem?_eq_getElem h0) (List.getElem?_eq_getElem h1) g2
      simpa using this
    · rw [List.getLast?_cons] at hs
      cases hw : ws.getLast? with
      | none => exact absurd (List.getLast?_eq_none_iff.1 hw) (PosI_ne g2)
      | some s' => rw [hw] at hs; cases hs; exact ⟨(g3 _ hw).1, fun _ => (g3 _ hw).2 (hne _ (List.getElem_mem h0))⟩
theorem Tc_last {nd : Int → NodeM × Int} {d : Nat} {ref : Int} {its : List ItemM} (h : Tc nd d ref its) : its ≠ [] → ∃ ws, refX (edgeK true) nd d ref = (ws, 0) ∧ PosI nd d ref its ws ((its.length : Int) - 1) ∧ ∀ s, ws.getLast? = some s → 0 ≤ s.k ∧ s.k < s.n.items.length := by
  induction h with
  | @leaf d ref n hn hl =>
    intro h0
    have h1 := List.length_pos_iff.2 h0
    have e : edgeK true n = (n.items.length : Int) - 1 := by simp [edgeK, hl, h0]
    refine ⟨_, refX_leaf hn hl, ?_, fun s hs => by
      have hs' : (⟨ref, n, edgeK true n⟩ : StepM) = s := Option.some.inj hs
      subst hs'
      show 0 ≤ edgeK true n ∧ edgeK true n < n.items.length
      omega⟩
    rw [e]
    exact .leaf hn hl (by omega) (by omega)
  | @branch d ref n its hn hl hk hi hne h ih =>
    intro _
    have h0 : n.kids.length - 1 < its.length := by omega
    have h1 : n.kids.length - 1 < n.kids.length := by omega
    obtain ⟨ws, g1, g2, g3⟩ := ih (n.kids.length - 1) _ _ (List.getElem?_eq_getElem h0) (List.getElem?_eq_getElem h1) (hne _ (List.getElem_mem h0))
    refine ⟨_, refX_branch hn hl (j := n.kids.length - 1) (by simp [edgeK, hl]; omega) (List.getElem?_eq_getElem h1) g1, ?_, fun s hs => ?_⟩
    · have hp := PosI.branch hn hl hk hi hne h (j := n.kids.length - 1) (List.getElem?_eq_getElem h0) (List.getElem?_eq_getElem h1) g2
      have hf := flat_at (List.getElem?_eq_getElem h0)
      rw [List.drop_of_length_le (by omega)] at hf
      have hl2 := congrArg List.length hf
      simp only [List.length_append, List.flatten_nil, List.length_nil] at hl2
      have : ((List.flatten its).length : Int) - 1 = ((its.take (n.kids.length - 1)).flatten.length : Int) + ((its[n.kids.length - 1].length : Int) - 1) := by omega
      rw [this]
      exact hp
    · rw [List.getLast?_cons] at hs
      cases hw : ws.getLast? with
      | none => exact absurd (List.getLast?_eq_none_iff.1 hw) (PosI_ne g2)
      | some s' => rw [hw] at hs; cases hs; exact g3 _ hw
/-- The kid beside, and the way down to its edge. -/
def sibX (nd : Int → NodeM × Int) (by_ : Int) (s : StepM) : Option (List StepM × Int) :=
  match (if 0 ≤ s.k + by_ then s.n.kids[(s.k + by_).toNat]? else none) with
  | none => none
  | some x => some (⟨s.ref, s.n, s.k + by_⟩ :: (wayX (edgeK (decide (by_ < 0))) nd x.ref).1, (wayX (edgeK (decide (by_ < 0))) nd x.ref).2)
def besT (nd : Int → NodeM × Int) (by_ : Int) : List StepM → Option (List StepM × Int)
  | [] => none
  | [_] => none
  | s :: t :: r => match besT nd by_ (t :: r) with
    | some p => some (s :: p.1, p.2)
    | none => sibX nd by_ s
def ansT : Option (List StepM × Int) → Ans × List StepM
  | none => (((nilI, false), 0), [])
  | some p => if p.2 ≠ 0 then (((nilI, false), p.2), []) else (((hereM p.1).1, 0), (hereM p.1).2)
def bsdO (nd : Int → NodeM × Int) (by_ : Int) (ws : List StepM) : Nat → Option (List StepM × Int)
  | 0 => none
  | k + 1 => match ws[k]? with
    | none => none
    | some s => match sibX nd by_ s with
      | some p => some (ws.take k ++ p.1, p.2)
      | none => bsdO nd by_ ws k
theorem bsdM_O (nd : Int → NodeM × Int) (by_ : Int) (ws : List StepM) : ∀ k, bsdM nd by_ ws k = ansT (bsdO nd by_ ws k)
  | 0 => rfl
  | k + 1 => by
    rw [bsdM, bsdO]
    cases hs : ws[k]? with
    | none => rfl
    | some s =>
      simp only [sibX]
      cases hx : (if 0 ≤ s.k + by_ then s.n.kids[(s.k + by_).toNat]? else none) with
      | none => exact bsdM_O nd by_ ws k
      | some x => rfl
theorem bsdO_cons (nd : Int → NodeM × Int) (by_ : Int) (s : StepM) (ws : List StepM) : ∀ k, k ≤ ws.length → bsdO nd by_ (s :: ws) (k + 1) = match bsdO nd by_ ws k with
    | some p => some (s :: p.1, p.2)
    | none => sibX nd by_ s
  | 0, _ => by
    simp only [bsdO, List.getElem?_cons_zero, List.take_zero, List.nil_append]
    cases sibX nd by_ s <;> rfl
  | k + 1, hk => by
    rw [bsdO, List.getElem?_cons_succ, List.getElem?_eq_getElem (show k < ws.length by omega)]
    conv => rhs; rw [bsdO, List.getElem?_eq_getElem (show k < ws.length by omega)]
    simp only
    cases sibX nd by_ (ws[k]'(by omega)) with
    | some p => rfl
    | none => exact bsdO_cons nd by_ s ws k (by omega)
theorem besT_O (nd : Int → NodeM × Int) (by_ : Int) : ∀ ws : List StepM, besT nd by_ ws = bsdO nd by_ ws (ws.length - 1)
  | [] => rfl
  | [_] => rfl
  | s :: t :: r => by
    rw [besT, besT_O nd by_ (t :: r)]
    exact (bsdO_cons nd by_ s (t :: r) r.length (by simp)).symm
theorem besideM_T (nd : Int → NodeM × Int) (by_ : Int) (ws : List StepM) : besideM nd by_ ws = ansT (besT nd by_ ws) := by
  rw [besideM, bsdM_O, besT_O]
theorem besT_cons (nd : Int → NodeM × Int) (by_ : Int) (s : StepM) {ws : List StepM} (h : ws ≠ []) : besT nd by_ (s :: ws) = match besT nd by_ ws with
    | some p => some (s :: p.1, p.2)
    | none => sibX nd by_ s := by
  cases ws with
  | nil => exact absurd rfl h
  | cons t r => rfl
theorem PosI_d {nd : Int → NodeM × Int} {d : Nat} {ref : Int} {its : List ItemM} {ws : List StepM} {i : Int} (h : PosI nd d ref its ws i) : ws.length ≤ d := by
  induction h with
  | leaf => simp
  | branch _ _ _ _ _ _ _ _ _ ih => simp; omega
/-- Behind a leaf's end: the next leaf's first item, if there is one. -/
theorem bes_next {nd : Int → NodeM × Int} {d : Nat} {ref : Int} {its : List ItemM} {ws : List StepM} {i : Int} (h : PosI nd d ref its ws i) : d ≤ 12 → (∀ s, ws.getLast? = some s → s.k = s.n.items.length) →
    ((its.length : Int) ≤ i ∧ i = its.length ∧ besT nd 1 ws = none) ∨ (i < its.length ∧ ∃ ws', besT nd 1 ws = some (ws', 0) ∧ PosI nd d ref its ws' i ∧ ∀ s, ws'.getLast? = some s → 0 ≤ s.k ∧ s.k < s.n.items.length) := by
  induction h with
  | @leaf d ref n hn hl k h0 h1 =>
    intro _ hk
    have : k = n.items.length := hk ⟨ref, n, k⟩ rfl
    exact .inl ⟨by omega, by omega, rfl⟩
  | @branch d ref n its hn hl hk hi hne h j y x hy hx ws i hp ih =>
    intro hd hkl
    have hws := PosI_ne hp
    rw [besT_cons nd 1 _ hws]
    have hf := flat_at hy
    have hfl := congrArg List.length hf
    simp only [List.length_append] at hfl
    have hkl' : ∀ s, ws.getLast? = some s → s.k = s.n.items.length := fun s hs => hkl s (by rw [List.getLast?_cons, hs]; rfl)
    rcases ih (by omega) hkl' with ⟨g1, g2, g3⟩ | ⟨g1, ws', g2, g3, g4⟩
    · rw [g3]
      simp only
      by_cases hj : j + 1 < n.kids.length
      · have hjy := List.getElem?_eq_getElem (show j + 1 < its.length by omega)
        have hjx := List.getElem?_eq_getElem hj
        have hne' := hne _ (List.getElem_mem (show j + 1 < its.length by omega))
        obtain ⟨ws', e1, e2, e3⟩ := Tc_first (h (j + 1) _ _ hjy hjx)
        have e1' := refX_12 e1 (by omega)
        right
        have hoff : (its.take (j + 1)).flatten.length = (its.take j).flatten.length + y.length := by
          have hjl := (List.getElem?_eq_some_iff.1 hy).1
          rw [List.take_succ_eq_append_getElem hjl, List.flatten_append, (List.getElem?_eq_some_iff.1 hy).2]
          simp
        have hlen : 0 < (its.drop (j + 1)).flatten.length := by
          rw [List.drop_eq_getElem_cons (show j + 1 < its.length by omega), List.flatten_cons, List.length_append]
          have := List.length_pos_iff.2 hne'
          omega
        refine ⟨by omega, (⟨ref, n, (j : Int) + 1⟩ : StepM) :: ws', ?_, ?_, ?_⟩
        · unfold sibX
          simp only
          rw [if_pos (by omega), show (((j : Nat) : Int) + 1).toNat = j + 1 by omega, hjx]
          simp only [show decide ((1 : Int) < 0) = false from rfl, e1']
        · have := PosI.branch hn hl hk hi hne h hjy hjx e2
          have e : ((its.take (j + 1)).flatten.length : Int) + 0 = ((its.take j).flatten.length : Int) + i := by omega
          rw [e] at this
          have ej : ((j + 1 : Nat) : Int) = (j : Int) + 1 := by omega
          rw [ej] at this
          exact this
        · intro s hs
          rw [List.getLast?_cons] at hs
          cases hw : ws'.getLast? with
          | none => exact absurd (List.getLast?_eq_none_iff.1 hw) (PosI_ne e2)
          | some s' =>
            rw [hw] at hs
            have hs' : s' = s := Option.some.inj hs
            subst hs'
            obtain ⟨h0, h0'⟩ := e3 _ hw
            have := List.length_pos_iff.2 (h0' hne')
            omega
      · left
        have hd0 : (its.drop (j + 1)) = [] := List.drop_of_length_le (by omega)
        rw [hd0] at hfl
        simp only [List.flatten_nil, List.length_nil] at hfl
        refine ⟨by omega, by omega, ?_⟩
        unfold sibX
        simp only
        rw [if_pos (by omega), List.getElem?_eq_none (by omega)]
    · rw [g2]
      right
      refine ⟨by omega, _, rfl, PosI.branch hn hl hk hi hne h hy hx g3, fun s hs => ?_⟩
      rw [List.getLast?_cons] at hs
      cases hw : ws'.getLast? with
      | none => exact absurd (List.getLast?_eq_none_iff.1 hw) (PosI_ne g3)
      | some s' => rw [hw] at hs; cases hs; exact g4 _ hw
/-- Ahead of a leaf's begin: the last item of the leaf ahead, if there is one. -/
theorem bes_prev {nd : Int → NodeM × Int} {d : Nat} {ref : Int} {its : List ItemM} {ws : List StepM} {i : Int} (h : PosI nd d ref its ws i) : d ≤ 12 → (∀ s, ws.getLast? = some s → s.k = -1) →
    (i = -1 ∧ besT nd (-1) ws = none) ∨ (0 ≤ i ∧ ∃ ws', besT nd (-1) ws = some (ws', 0) ∧ PosI nd d ref its ws' i ∧ ∀ s, ws'.getLast? = some s → 0 ≤ s.k ∧ s.k < s.n.items.length) := by
  induction h with
  | @leaf d ref n hn hl k h0 h1 =>
    intro _ hk
    have : k = -1 := hk ⟨ref, n, k⟩ rfl
    exact .inl ⟨this, rfl⟩
  | @branch d ref n its hn hl hk hi hne h j y x hy hx ws i hp ih =>
    intro hd hkl
    have hws := PosI_ne hp
    rw [besT_cons nd (-1) _ hws]
    have hkl' : ∀ s, ws.getLast? = some s → s.k = -1 := fun s hs => hkl s (by rw [List.getLast?_cons, hs]; rfl)
    rcases ih (by omega) hkl' with ⟨g1, g3⟩ | ⟨g1, ws', g2, g3, g4⟩
    · rw [g3]
      simp only
      by_cases hj : 0 < j
      · have hjl := (List.getElem?_eq_some_iff.1 hx).1
        have hjy := List.getElem?_eq_getElem (show j - 1 < its.length by omega)
        have hjx := List.getElem?_eq_getElem (show j - 1 < n.kids.length by omega)
        have hne' := hne _ (List.getElem_mem (show j - 1 < its.length by omega))
        obtain ⟨ws', e1, e2, e3⟩ := Tc_last (h (j - 1) _ _ hjy hjx) hne'
        have e1' := refX_12 e1 (by omega)
        right
        have hoff : (its.take j).flatten.length = (its.take (j - 1)).flatten.length + (its[j - 1]'(by omega)).length := by
          have h1 : its.take j = its.take (j - 1) ++ [its[j - 1]'(by omega)] := by
            rw [← List.take_succ_eq_append_getElem (show j - 1 < its.length by omega)]
            congr 1
            omega
          rw [h1, List.flatten_append]
          simp
        have := List.length_pos_iff.2 hne'
        refine ⟨by omega, (⟨ref, n, (j : Int) + -1⟩ : StepM) :: ws', ?_, ?_, ?_⟩
        · unfold sibX
          simp only
          rw [if_pos (by omega), show (((j : Nat) : Int) + -1).toNat = j - 1 by omega, hjx]
          simp only [show decide ((-1 : Int) < 0) = true from rfl, e1']
        · have h2 := PosI.branch hn hl hk hi hne h hjy hjx e2
          have e : ((its.take (j - 1)).flatten.length : Int) + (((its[j - 1]'(by omega)).length : Int) - 1) = ((its.take j).flatten.length : Int) + i := by omega
          rw [e] at h2
          have ej : ((j - 1 : Nat) : Int) = (j : Int) + -1 := by omega
          rw [ej] at h2
          exact h2
        · intro s hs
          rw [List.getLast?_cons] at hs
          cases hw : ws'.getLast? with
          | none => exact absurd (List.getLast?_eq_none_iff.1 hw) (PosI_ne e2)
          | some s' =>
            rw [hw] at hs
            cases hs
            exact e3 _ hw
      · left
        have : j = 0 := by omega
        subst this
        refine ⟨by simp; omega, ?_⟩
        unfold sibX
        simp only
        rw [if_neg (by omega)]
    · rw [g2]
      right
      refine ⟨by omega, _, rfl, PosI.branch hn hl hk hi hne h hy hx g3, fun s hs => ?_⟩
      rw [List.getLast?_cons] at hs
      cases hw : ws'.getLast? with
      | none => exact absurd (List.getLast?_eq_none_iff.1 hw) (PosI_ne g3)
      | some s' => rw [hw] at hs; cases hs; exact g4 _ hw
/-- The leaf's number is another one. -/
theorem PosI_mv {nd : Int → NodeM × Int} {d : Nat} {ref : Int} {its : List ItemM} {ws : List StepM} {i : Int} (h : PosI nd d ref its ws i) (by_ : Int) : ∀ s, ws.getLast? = some s → -1 ≤ s.k + by_ → s.k + by_ ≤ s.n.items.length →
    PosI nd d ref its (ws.dropLast ++ [⟨s.ref, s.n, s.k + by_⟩]) (i + by_) := by
  induction h with
  | @leaf d ref n hn hl k h0 h1 =>
    intro s hs a b
    have hs' : (⟨ref, n, k⟩ : StepM) = s := Option.some.inj hs
    subst hs'
    exact .leaf hn hl a b
  | @branch d ref n its hn hl hk hi hne h j y x hy hx ws i hp ih =>
    intro s hs a b
    have hws := PosI_ne hp
    have hs' : ws.getLast? = some s := by
      rw [List.getLast?_cons] at hs
      cases hw : ws.getLast? with
      | none => exact absurd (List.getLast?_eq_none_iff.1 hw) hws
      | some s' => rw [hw] at hs; exact hs
    have := PosI.branch hn hl hk hi hne h hy hx (ih s hs' a b)
    rw [List.dropLast_cons_of_ne_nil hws, List.cons_append, Int.add_assoc]
    exact this
/-- A place: an item's number. -/
def Good (nd : Int → NodeM × Int) (root : Int) (its : List ItemM) (ws : List StepM) (i : Nat) : Prop := PosI nd 12 root its ws i ∧ ∀ s, ws.getLast? = some s → 0 ≤ s.k ∧ s.k < s.n.items.length
theorem Good_here {nd : Int → NodeM × Int} {root : Int} {its : List ItemM} {ws : List StepM} {i : Nat} (h : Good nd root its ws i) : ∃ x, its[i]? = some x ∧ hereM ws = ((x, true), ws) := by
  obtain ⟨s, A, B, g1, _⟩ := PosI_last h.1
  obtain ⟨h0, h1⟩ := h.2 s g1
  obtain ⟨m, x, e, h2, h3⟩ := hereM_at h.1 g1 h0 h1
  have : m = i := by omega
  subst this
  exact ⟨x, h2, h3⟩
/-- Where a cursor stands: nowhere, or on an item. -/
def Rel (nd : Int → NodeM × Int) (root : Int) (its : List ItemM) (ws : List StepM) (at_ : Int) : Prop := (ws = [] ∧ at_ = -1) ∨ ∃ i : Nat, at_ = i ∧ Good nd root its ws i
/-- What is told of a place. -/
def told (its : List ItemM) (at_ : Int) : ItemM × Bool := if 0 ≤ at_ then match its[at_.toNat]? with
  | some x => (x, true)
  | none => (nilI, false) else (nilI, false)
/-- An answer that is right: at a place, and the cursor stands there. -/
def Right (nd : Int → NodeM × Int) (root : Int) (its : List ItemM) (at_ : Int) (r : Ans × List StepM) : Prop := r.1 = (told its at_, 0) ∧ Rel nd root its r.2 at_
theorem told_good {nd : Int → NodeM × Int} {root : Int} {its : List ItemM} {ws : List StepM} {i : Nat} (h : Good nd root its ws i) : Right nd root its i (((hereM ws).1, 0), (hereM ws).2) := by
  obtain ⟨x, h1, h2⟩ := Good_here h
  rw [h2]
  refine ⟨?_, .inr ⟨i, rfl, h⟩⟩
  unfold told
  rw [if_pos (by omega), Int.toNat_natCast, h1]
theorem told_none {nd : Int → NodeM × Int} {root : Int} {its : List ItemM} : Right nd root its (-1) (((nilI, false), 0), []) := ⟨rfl, .inl ⟨rfl, rfl⟩⟩
theorem mv_good {nd : Int → NodeM × Int} {root : Int} {its : List ItemM} {ws : List StepM} {i : Nat} (h : Good nd root its ws i) (by_ : Int) (hb : by_ = 1 ∨ by_ = -1) :
    Right nd root its (if (i : Int) + by_ = its.length then -1 else (i : Int) + by_) (moveM nd by_ ws) := by
  obtain ⟨s, A, B, g1, g2, g3, g4, g5, g6⟩ := PosI_last h.1
  obtain ⟨h0, h1⟩ := h.2 s g1
  have hp := PosI_mv h.1 by_ s g1 (by rcases hb with rfl | rfl <;> omega) (by rcases hb with rfl | rfl <;> omega)
  have hl : (ws.dropLast ++ [(⟨s.ref, s.n, s.k + by_⟩ : StepM)]).getLast? = some ⟨s.ref, s.n, s.k + by_⟩ := by simp
  have hil : (i : Int) < its.length := by
    have := congrArg List.length g5
    simp only [List.length_append] at this
    omega
  unfold moveM
  rw [g1]
  simp only
  by_cases c : s.k + by_ < 0 ∨ (s.n.items.length : Int) ≤ s.k + by_
  · rw [if_pos c, besideM_T]
    rcases hb with rfl | rfl
    · rcases bes_next hp (Nat.le_refl _) (fun s' hs' => by rw [hl] at hs'; cases hs'; simp only; omega) with ⟨q1, q2, q3⟩ | ⟨q1, ws', q2, q3, q4⟩
      · rw [q3, if_pos (by omega)]
        exact told_none
      · rw [q2, if_neg (by omega)]
        have e : ((i : Int) + 1) = ((i + 1 : Nat) : Int) := by omega
        rw [e] at q3 ⊢
        simp only [ansT, ne_eq, not_true_eq_false, if_false]
        exact told_good ⟨q3, q4⟩
    · rcases bes_prev hp (Nat.le_refl _) (fun s' hs' => by rw [hl] at hs'; cases hs'; simp only; omega) with ⟨q1, q3⟩ | ⟨q1, ws', q2, q3, q4⟩
      · rw [q3, if_neg (by omega), q1]
        exact told_none
      · rw [q2, if_neg (by omega)]
        obtain ⟨m, hm⟩ : ∃ m : Nat, (i : Int) + -1 = m := ⟨((i : Int) + -1).toNat, by omega⟩
        rw [hm] at q3 ⊢
        simp only [ansT, ne_eq, not_true_eq_false, if_false]
        exact told_good ⟨q3, q4⟩
  · rw [if_neg c, if_neg ?_]
    · have h2 : 0 ≤ (i : Int) + by_ := by
        have : (i : Int) + by_ = (A.length : Int) + (s.k + by_) := by omega
        omega
      obtain ⟨m, hm⟩ : ∃ m : Nat, (i : Int) + by_ = m := ⟨((i : Int) + by_).toNat, by omega⟩
      rw [hm] at hp ⊢
      exact told_good ⟨hp, fun s' hs' => by rw [hl] at hs'; cases hs'; simp only; omega⟩
    · intro e
      have := congrArg List.length g5
      simp only [List.length_append] at this
      omega
end Go.VI

set_option linter.unusedVariables false
set_option linter.unusedSimpArgs false
namespace Go.VI
theorem all_Tc {l : List NamedM} {root : Int} (h : (allM l root).2 = 0) : Tc (nodeM l) 12 root (allM l root).1.items := Tr_Tc (all_Tr h) (by show (1 : Int) ≤ 1; omega)
theorem edgeC_first {nd : Int → NodeM × Int} {root : Int} {its : List ItemM} (h : Tc nd 12 root its) : Right nd root its (if its = [] then -1 else 0) (edgeC nd root false) := by
  obtain ⟨ws, g1, g2, g3⟩ := Tc_first h
  have hw : wayX (edgeK false) nd root = (ws, 0) := refX_12 g1 (Nat.le_refl _)
  unfold edgeC standM
  rw [hw]
  simp only [ne_eq, not_true_eq_false, if_false]
  obtain ⟨s, A, B, q1, q2, q3, q4, q5, q6⟩ := PosI_last g2
  obtain ⟨k0, k1⟩ := g3 s q1
  by_cases h0 : its = []
  · rw [if_pos h0]
    have hi : s.n.items = [] := by
      rw [h0] at q5
      have := congrArg List.length q5
      simp only [List.length_append, List.length_nil] at this
      exact List.eq_nil_of_length_eq_zero (by omega)
    rw [hereM_off q1 (by rw [hi]; simp)]
    exact told_none
  · rw [if_neg h0]
    have := List.length_pos_iff.2 (k1 h0)
    exact told_good (i := 0) ⟨g2, fun s' hs' => by rw [q1] at hs'; cases hs'; omega⟩
theorem edgeC_last {nd : Int → NodeM × Int} {root : Int} {its : List ItemM} (h : Tc nd 12 root its) : Right nd root its ((its.length : Int) - 1) (edgeC nd root true) := by
  by_cases h0 : its = []
  · have he : ((its.length : Int) - 1) = -1 := by rw [h0]; rfl
    rw [he]
    generalize hd : 12 = d at h
    cases h with
    | @leaf d ref n hn hl =>
      have e : edgeK true n = 0 := by simp [edgeK, hl, h0]
      have hw : wayX (edgeK true) nd root = ([⟨root, n, 0⟩], 0) := by
        have := refX_leaf (kf := edgeK true) (d := d) hn hl
        rw [e] at this
        exact refX_12 this (by omega)
      unfold edgeC standM
      rw [hw]
      simp only [ne_eq, not_true_eq_false, if_false]
      rw [hereM_off (s := ⟨root, n, 0⟩) rfl (by simp only; rw [h0]; simp)]
      exact told_none
    | @branch d ref n its hn hl hk hi hne h =>
      exfalso
      have h1 : 0 < its.length := by omega
      exact hne _ (List.getElem_mem h1) (List.flatten_eq_nil_iff.1 h0 _ (List.getElem_mem h1))
  · obtain ⟨ws, g1, g2, g3⟩ := Tc_last h h0
    have hw : wayX (edgeK true) nd root = (ws, 0) := refX_12 g1 (Nat.le_refl _)
    have := List.length_pos_iff.2 h0
    unfold edgeC standM
    rw [hw]
    simp only [ne_eq, not_true_eq_false, if_false]
    obtain ⟨m, hm⟩ : ∃ m : Nat, (its.length : Int) - 1 = m := ⟨its.length - 1, by omega⟩
    rw [hm] at g2 ⊢
    exact told_good ⟨g2, g3⟩
/-- c items are below a key, the others not. -/
structure Cut (key : Bytes) (its : List ItemM) (c : Nat) : Prop where
  le : c ≤ its.length
  lo : ∀ x ∈ its.take c, cmpB x.key key < 0
  hi : ∀ x ∈ its.drop c, ¬ cmpB x.key key < 0
theorem Cut_doF {key : Bytes} {o : OpM} (ho : o.kind = 0) (hk : o.key = key) : ∀ (its : List ItemM) (c : Nat) (k : Int), Cut key its c → doF o its k = if c < its.length then k + c else -1
  | [], c, k, h => by
    have := h.le
    simp at this
    subst this
    rfl
  | x :: r, c, k, h => by
    unfold doF
    cases c with
    | zero =>
      have := h.hi x (by simp)
      rw [if_pos (.inr (by rw [hk]; omega))]
      simp
    | succ c =>
      have h1 := h.lo x (by simp)
      rw [if_neg (by rw [hk]; intro q; rcases q with q | q; exact q ho; omega)]
      have := Cut_doF ho hk r c (k + 1) ⟨by have := h.le; simp at this; exact this, fun y hy => h.lo y (by simp [hy]), fun y hy => h.hi y (by simpa using hy)⟩
      rw [this]
      simp only [List.length_cons]
      by_cases hc : c < r.length
      · rw [if_pos hc, if_pos (by omega)]; omega
      · rw [if_neg hc, if_neg (by omega)]
theorem Tr_seek {l : List NamedM} {d : Nat} {p : PlaceM} {D : Int} {its : List ItemM} (h : Tr l d p D its) : ∀ key, bndM p key = true → 1 ≤ p.deep →
    ∃ ws c, refX (pathK key) (nodeM l) d p.ref = (ws, 0) ∧ PosI (nodeM l) d p.ref its ws (c : Nat) ∧ Cut key its c ∧ ∀ s, ws.getLast? = some s → 0 ≤ s.k := by
  induction h with
  | @leaf d p n hn hl hk ho he =>
    intro key hb h1
    have hr : RiseI n.items := List.pairwise_map.1 (ksM_rise ho).1
    obtain ⟨c, c1, c2, c3⟩ := cnt_spec key n.items (rise_risI hr)
    have e : pathK key n = (c : Int) := by rw [pathK, hl, if_pos rfl, bsM_findM _ _ (rise_risI hr), c1]
    have := refX_leaf (kf := pathK key) (d := d) hn hl
    rw [e] at this
    refine ⟨_, c, this, .leaf hn hl (by omega) (by omega), ⟨c2, fun x hx => ?_, fun x hx => ?_⟩, fun s hs => ?_⟩
    · obtain ⟨i, hi, rfl⟩ := List.mem_iff_getElem.1 hx
      simp only [List.length_take] at hi
      rw [List.getElem_take]
      exact (c3 i (by omega)).1 (by omega)
    · obtain ⟨i, hi, rfl⟩ := List.mem_iff_getElem.1 hx
      simp only [List.length_drop] at hi
      rw [List.getElem_drop]
      intro q
      have := (c3 (c + i) (by omega)).2 q
      omega
    · have hs' : (⟨p.ref, n, (c : Int)⟩ : StepM) = s := Option.some.inj hs
      subst hs'
      show (0 : Int) ≤ c
      omega
  | @branch d p n D its hn hl hk ho hi h ih =>
    intro key hb h1
    obtain ⟨j, ej, s1, s2, s3⟩ : ∃ j, sideP n.kids key = j ∧ j ≤ n.kids.length - 1 ∧ (∀ (h : j < n.kids.length), 0 < j → cmpB n.kids[j].key key ≤ 0) ∧ (∀ (i : Nat) (h : i < n.kids.length), j < i → i ≤ n.kids.length - 1 → 0 < cmpB n.kids[i].key key) :=
      ⟨_, rfl, side_spec n.kids key (n.kids.length - 1) (by omega)⟩
    have hj : j < n.kids.length := by omega
    have hp : pathK key n = (j : Nat) := by simp [pathK, hl, ej]
    have hbk : bndM (kidM p n j) key = true := by
      rw [bnd_iff] at hb ⊢
      refine ⟨fun hh => ?_, fun hh => ?_⟩
      · by_cases h0 : 0 < j
        · rw [(kid_low (p := p) hj h0).2]
          exact s2 hj h0
        · have : j = 0 := by omega
          subst this
          rw [kid_low0.2]
          exact hb.1 (by rwa [kid_low0.1] at hh)
      · by_cases h0 : j + 1 < n.kids.length
        · rw [(kid_high (p := p) h0).2]
          exact cmpB_gt.2 (s3 (j + 1) h0 (by omega) (by omega))
        · rw [(kid_high0 (p := p) h0).2]
          exact hb.2 (by rwa [(kid_high0 (p := p) h0).1] at hh)
    have hji : j < its.length := by omega
    have ej' := List.getElem?_eq_getElem hji
    obtain ⟨ws, c, g1, g2, g3, g4⟩ := ih j _ ej' key hbk (by show 1 ≤ p.deep + 1; omega)
    have er : (kidM p n j).ref = n.kids[j].ref := by simp [kidM, hj]
    rw [er] at g1 g2
    have hxj := List.getElem?_eq_getElem hj
    have hTc := Tr_Tc (.branch hn hl hk ho hi h) h1
    have hne : ∀ y ∈ its, y ≠ [] := fun y hy => by
      obtain ⟨k, hk', rfl⟩ := List.mem_iff_getElem.1 hy
      exact Tr_ne (h k _ (List.getElem?_eq_getElem hk')) (by show 2 ≤ p.deep + 1; omega)
    have hT : ∀ (k : Nat) (y : List ItemM) (x : KidM), its[k]? = some y → n.kids[k]? = some x → Tc (nodeM l) d x.ref y := fun k y x hy hx => by
      have := Tr_Tc (h k y hy) (by show 1 ≤ p.deep + 1; omega)
      have e : (kidM p n k).ref = x.ref := by simp [kidM, hx]
      rwa [e] at this
    have hpos := PosI.branch hn hl hk hi hne hT ej' hxj g2
    have hf := flat_at ej'
    have irr : ¬ cmpB key key < 0 := by rw [cmpB_refl]; omega
    refine ⟨_, (its.take j).flatten.length + c, refX_branch hn hl hp hxj g1, by simpa using hpos, ⟨?_, fun x hx => ?_, fun x hx => ?_⟩, fun s hs => ?_⟩
    · rw [hf]
      have := g3.le
      simp only [List.length_append]
      omega
    · rw [hf, List.append_assoc, List.take_append, List.mem_append] at hx
      rcases hx with hx | hx
      · obtain ⟨y, hy, hxy⟩ := List.mem_flatten.1 (List.mem_of_mem_take hx)
        obtain ⟨i, hi', rfl⟩ := List.mem_iff_getElem.1 hy
        simp only [List.length_take] at hi'
        rw [List.getElem_take] at hxy
        exact kids_lt ho (show i < j by omega) hj (Tr_bnd (h i _ (List.getElem?_eq_getElem (by omega))) x hxy) hbk
      · rw [Nat.add_sub_cancel_left, List.take_append_of_le_length g3.le] at hx
        exact g3.lo x hx
    · rw [hf, List.append_assoc, List.drop_append, Nat.add_sub_cancel_left] at hx
      rw [List.drop_of_length_le (by omega), List.nil_append, List.drop_append_of_le_length g3.le, List.mem_append] at hx
      rcases hx with hx | hx
      · exact g3.hi x hx
      · obtain ⟨y, hy, hxy⟩ := List.mem_flatten.1 hx
        obtain ⟨i, hi', rfl⟩ := List.mem_iff_getElem.1 hy
        simp only [List.length_drop] at hi'
        rw [List.getElem_drop] at hxy
        have := kids_lt ho (show j < j + 1 + i by omega) (by omega) hbk (Tr_bnd (h (j + 1 + i) _ (List.getElem?_eq_getElem (by omega))) x hxy)
        have h3 := cmpB_swap key x.key
        omega
    · rw [List.getLast?_cons] at hs
      cases hw : ws.getLast? with
      | none => exact absurd (List.getLast?_eq_none_iff.1 hw) (PosI_ne g2)
      | some s' => rw [hw] at hs; have hs' : s' = s := Option.some.inj hs; subst hs'; exact g4 _ hw
theorem seek_good {l : List NamedM} {root : Int} (h : (allM l root).2 = 0) (o : OpM) (ho : o.kind = 0) : Right (nodeM l) root (allM l root).1.items (doF o (allM l root).1.items 0) (seekC (nodeM l) root o.key) := by
  obtain ⟨ws, c, g1, g2, g3, g4⟩ := Tr_seek (all_Tr h) o.key (by simp [bndM, root0]) (by show (1 : Int) ≤ 1; omega)
  have hw : wayX (pathK o.key) (nodeM l) root = (ws, 0) := refX_12 g1 (Nat.le_refl _)
  rw [Cut_doF ho rfl _ c 0 g3, Int.zero_add]
  obtain ⟨s, A, B, q1, q2, q3, q4, q5, q6⟩ := PosI_last g2
  have k0 := g4 s q1
  have hlen := congrArg List.length q5
  simp only [List.length_append] at hlen
  unfold seekC
  rw [hw]
  simp only [ne_eq, not_true_eq_false, if_false]
  rw [q1]
  simp only
  by_cases hk : (s.n.items.length : Int) ≤ s.k
  · rw [if_pos hk, besideM_T]
    rcases bes_next g2 (Nat.le_refl _) (fun s' hs' => by rw [q1] at hs'; cases hs'; omega) with ⟨p1, p2, p3⟩ | ⟨p1, ws', p2, p3, p4⟩
    · rw [p3, if_neg (by omega)]
      exact told_none
    · rw [p2, if_pos (by omega)]
      simp only [ansT, ne_eq, not_true_eq_false, if_false]
      exact told_good ⟨p3, p4⟩
  · rw [if_neg hk, if_pos (by omega)]
    exact told_good ⟨g2, fun s' hs' => by rw [q1] at hs'; cases hs'; omega⟩
theorem doF_any {o : OpM} (h : o.kind ≠ 0) (its : List ItemM) : doF o its 0 = if its = [] then -1 else 0 := by
  cases its with
  | nil => rfl
  | cons x r => simp [doF, h]
theorem do_good {l : List NamedM} {root : Int} (h : (allM l root).2 = 0) (o : OpM) (ho : 0 ≤ o.kind ∧ o.kind ≤ 4) {ws : List StepM} {at_ : Int} (hr : Rel (nodeM l) root (allM l root).1.items ws at_) :
    Right (nodeM l) root (allM l root).1.items (doR (allM l root).1.items at_ o) (doM (nodeM l) root o ws) := by
  have hT := all_Tc h
  have e1 := edgeC_first hT
  have e2 := edgeC_last hT
  unfold doR doM
  by_cases k0 : o.kind = 0
  · rw [if_neg (by omega), if_neg (by omega), if_neg (by omega), if_pos k0]
    exact seek_good h o k0
  · rw [if_neg k0]
    have hd := doF_any k0 (allM l root).1.items
    by_cases k1 : o.kind = 1
    · rw [if_neg (by omega), if_neg (by omega), if_neg (by omega), if_pos k1, hd]
      exact e1
    · rw [if_neg k1]
      by_cases k2 : o.kind = 2
      · rw [if_neg (by omega), if_neg (by omega), if_pos (.inl k2), if_pos k2]
        exact e2
      · rw [if_neg k2]
        unfold stepN
        rcases hr with ⟨rfl, rfl⟩ | ⟨i, rfl, hg⟩
        · by_cases k3 : o.kind = 3
          · rw [if_neg (by omega), if_neg (by omega), if_neg (by omega), if_pos k3, if_pos rfl, hd]
            exact e1
          · rw [if_neg (by omega), if_neg (by omega), if_pos (.inr (by omega)), if_neg k3, if_pos rfl]
            exact e2
        · have hne := PosI_ne hg.1
          by_cases k3 : o.kind = 3
          · rw [if_pos ⟨k3, by omega⟩, if_pos k3, if_neg hne]
            exact mv_good hg 1 (.inl rfl)
          · have k4 : o.kind = 4 := by omega
            rw [if_neg (by omega), if_pos ⟨k4, by omega⟩, if_neg k3, if_neg hne]
            have := mv_good hg (-1) (.inr rfl)
            rw [if_neg (by
              obtain ⟨x, hx, _⟩ := Good_here hg
              have := (List.getElem?_eq_some_iff.1 hx).1
              omega)] at this
            exact this
/-- What a place's way is. -/
theorem PosI_ok {nd : Int → NodeM × Int} (hok : ∀ ref, okN (nd ref).1) (ht : ∀ ref, (nd ref).1.items.length ≤ 1000 ∧ (nd ref).1.kids.length ≤ 1000) {d : Nat} {ref : Int} {its : List ItemM} {ws : List StepM} {i : Int} (h : PosI nd d ref its ws i) : ∀ s ∈ ws, okC s := by
  induction h with
  | @leaf d ref n hn hl k h0 h1 =>
    intro s hs
    rw [List.mem_singleton.1 hs]
    have a := hok ref
    have b := ht ref
    rw [hn] at a b
    exact ⟨a, b.1, b.2, h0, by simp only; simp only at b; omega⟩
  | @branch d ref n its hn hl hk hi hne h j y x hy hx ws i hp ih =>
    intro s hs
    rcases List.mem_cons.1 hs with rfl | hs
    · have a := hok ref
      have b := ht ref
      rw [hn] at a b
      have := (List.getElem?_eq_some_iff.1 hx).1
      exact ⟨a, b.1, b.2, by simp only; omega, by simp only; simp only at b; omega⟩
    · exact ih s hs
theorem Rel_ok {nd : Int → NodeM × Int} (hok : ∀ ref, okN (nd ref).1) (ht : ∀ ref, (nd ref).1.items.length ≤ 1000 ∧ (nd ref).1.kids.length ≤ 1000) {root : Int} {its : List ItemM} {ws : List StepM} {at_ : Int} (h : Rel nd root its ws at_) :
    okCs ws ∧ ws.length ≤ 999000000 ∧ ∀ s, ws.getLast? = some s → 0 ≤ s.k ∧ s.k ≤ 1000 := by
  rcases h with ⟨rfl, rfl⟩ | ⟨i, rfl, hg⟩
  · exact ⟨⟨by simp, by simp⟩, by simp, by simp⟩
  · have hl := PosI_d hg.1
    have ho := PosI_ok hok ht hg.1
    refine ⟨⟨ho, by omega⟩, by omega, fun s hs => ?_⟩
    have h1 := hg.2 s hs
    have h2 := ho s (List.mem_of_getLast? hs)
    obtain ⟨_, h3, _⟩ := h2
    omega
theorem bsd_fail (nd : Int → NodeM × Int) (b by_ : Int) (ws : List StepM) : ∀ k, bsdM (ndX nd b) by_ ws k = (((nilI, false), 10), []) ∨ bsdM (ndX nd b) by_ ws k = bsdM nd by_ ws k
  | 0 => .inr rfl
  | k + 1 => by
    rw [bsdM, bsdM]
    cases hs : ws[k]? with
    | none => exact .inr rfl
    | some s =>
      simp only
      cases hx : (if 0 ≤ s.k + by_ then s.n.kids[(s.k + by_).toNat]? else none) with
      | none => exact bsd_fail nd b by_ ws k
      | some x =>
        simp only
        rcases wayX_fail (edgeK (decide (by_ < 0))) nd b x.ref with h | h
        · left; rw [h]; simp
        · right; rw [h]
theorem edge_fail (nd : Int → NodeM × Int) (b root : Int) (last : Bool) : edgeC (ndX nd b) root last = (((nilI, false), 10), []) ∨ edgeC (ndX nd b) root last = edgeC nd root last := by
  unfold edgeC
  rcases wayX_fail (edgeK last) nd b root with h | h
  · left; rw [h]; simp [standM]
  · right; rw [h]
theorem mv_fail (nd : Int → NodeM × Int) (b by_ : Int) (ws : List StepM) : moveM (ndX nd b) by_ ws = (((nilI, false), 10), []) ∨ moveM (ndX nd b) by_ ws = moveM nd by_ ws := by
  unfold moveM
  cases ws.getLast? with
  | none => exact .inr rfl
  | some s =>
    simp only
    split
    · exact bsd_fail nd b by_ _ _
    · exact .inr rfl
theorem seek_fail (nd : Int → NodeM × Int) (b root : Int) (key : Bytes) : seekC (ndX nd b) root key = (((nilI, false), 10), []) ∨ seekC (ndX nd b) root key = seekC nd root key := by
  unfold seekC
  rcases wayX_fail (pathK key) nd b root with h | h
  · left; rw [h]; simp
  · rw [h]
    split
    · exact .inr rfl
    · split
      · exact .inr rfl
      · split
        · exact bsd_fail nd b 1 _ _
        · exact .inr rfl
theorem step_fail (nd : Int → NodeM × Int) (b root : Int) (fwd : Bool) (ws : List StepM) : stepN (ndX nd b) root fwd ws = (((nilI, false), 10), []) ∨ stepN (ndX nd b) root fwd ws = stepN nd root fwd ws := by
  unfold stepN
  split
  · exact edge_fail nd b root _
  · exact mv_fail nd b _ ws
theorem do_fail (nd : Int → NodeM × Int) (b root : Int) (o : OpM) (ws : List StepM) : doM (ndX nd b) root o ws = (((nilI, false), 10), []) ∨ doM (ndX nd b) root o ws = doM nd root o ws := by
  unfold doM
  split
  · exact seek_fail nd b root _
  · split
    · exact edge_fail nd b root _
    · split
      · exact edge_fail nd b root _
      · split
        · exact step_fail nd b root _ ws
        · exact step_fail nd b root _ ws
end Go.VI

set_option linter.unusedVariables false
set_option linter.unusedSimpArgs false
set_option maxRecDepth 100000
namespace Go.VI
attribute [local congr] AW_congr OW_congr DW_congr NW_congr VW_congr GW_congr PW_congr KW_congr ite_congr' GV_congr CV_congr
theorem told_cases {nd : Int → NodeM × Int} {root : Int} {its : List ItemM} {at_ : Int} {r : Ans × List StepM} (h : Right nd root its at_ r) : (at_ = -1 ∧ r.1 = ((nilI, false), 0)) ∨ ∃ m x, at_ = (m : Nat) ∧ its[m]? = some x ∧ r.1 = ((x, true), 0) := by
  obtain ⟨h1, h2⟩ := h
  rcases h2 with ⟨_, rfl⟩ | ⟨m, rfl, hg⟩
  · exact .inl ⟨rfl, h1⟩
  · obtain ⟨x, hx, _⟩ := Good_here hg
    refine .inr ⟨m, x, rfl, hx, ?_⟩
    rw [h1]
    unfold told
    rw [if_pos (by omega), Int.toNat_natCast, hx]
theorem few_F {l : List NamedM} {sc : List OpM} (h : fewS l sc = true) : fewM l = true := by
  unfold fewS at h
  simp only [Bool.and_eq_true] at h
  exact h.2.1
end Go.VI

set_option linter.unusedVariables false
set_option linter.unusedSimpArgs false
set_option maxRecDepth 100000
namespace Go.VI
attribute [local congr] AW_congr OW_congr DW_congr NW_congr VW_congr GW_congr PW_congr KW_congr ite_congr' GV_congr CV_congr
theorem AW_rangeF {ft : FT} {f : Operand} {ps : List Nat} {asg body : ACode} {e : Env} {H : Heap} {Q : AExit → Env → Heap → Prop} (hg : isGo ft (ev e f) = true)
    (h : ∃ v H1, callL ft (ev e f) [.yld H.next] (H.push (.loop .ready e ps asg body none)) = some (v, H1) ∧ ∃ x e' H', rangeE H.next e H1 = some (x, e', H') ∧ Q x e' H') : AW ft (.rangeF f ps asg body) e H Q := by
  obtain ⟨v, H1, h1, x, e', H', h2, h3⟩ := h
  refine ⟨x, e', H', ?_, h3⟩
  rw [execL_rangeF, if_pos hg, h1]
  exact h2
/-- A round whose body comes to its end. -/
theorem yld_of {ft : FT} {id : Nat} {K : Heap} {args : List AV} {e : Env} {ps : List Nat} {body : ACode} {R : Heap → Prop} (hg : K.get id = some (.loop .ready e ps .skip body none)) (hl : args.length = ps.length)
    (h : AW ft body (setAll e ps args) (K.set id (.loop .busy e ps .skip body none)) fun x _ H2 => x = .normal ∧ H2.get id = some (.loop .busy e ps .skip body none) ∧ R (H2.set id (.loop .ready e ps .skip body none))) :
    ∃ K', callL ft (.yld id) args K = some (.sc (.bool true), K') ∧ R K' := by
  obtain ⟨x, e', H2, h1, rfl, h2, h3⟩ := h
  refine ⟨_, ?_, h3⟩
  show roundA (execL ft) id args K = _
  unfold roundA
  rw [hg]
  simp only
  rw [if_pos hl, execL_skip]
  simp only [Option.bind_some, if_true]
  have hb : roundB id K = some (K.set id (.loop .busy e ps .skip body none)) := by unfold roundB; rw [hg]
  rw [hb]
  simp only [Option.bind_some, h1]
  unfold roundE
  rw [h2]
  rfl
/-- What a loop's rounds do: from a state to the next one; blocks of Y alone turn. -/
structure Yd (id : Nat) (Y : List Nat) (N : Nat) (J : Nat → Heap → Prop) : Prop where
  run : ∀ m K x, J m K → m < N → ∃ K', callL ft (.yld id) [.agg (itemC x)] K = some (.sc (.bool true), K') ∧ J (m + 1) K' ∧ K'.next = K.next ∧ ∀ j, j ∉ Y → K'.get j = K.get j
  st : ∀ m K K', J m K → (∀ j, j = id ∨ j ∈ Y → K'.get j = K.get j) → J m K'
  lt : ∀ m K, J m K → id < K.next ∧ ∀ j ∈ Y, j < K.next
theorem get_of_lt {K : Heap} {j : Nat} (h : j < K.next) : ∃ b, K.get j = some b := by
  simp only [Heap.next, Heap.get] at *
  exact ⟨_, List.getElem?_eq_getElem h⟩
/-- Answers of a source that may tell an error: right, or that error. -/
def Maybe (g : Prop) (nd : Int → NodeM × Int) (root : Int) (its : List ItemM) (at_ : Int) (r : Ans × List StepM) : Prop := Right nd root its at_ r ∨ (¬ g ∧ r = (((nilI, false), 10), []))
def cnt (its : List ItemM) (at_ : Int) : Nat := if at_ = -1 then 0 else its.length - at_.toNat
theorem told_has {nd : Int → NodeM × Int} {root : Int} {its : List ItemM} {ws : List StepM} {i : Nat} (h : Good nd root its ws i) : ∃ x, its[i]? = some x ∧ told its i = (x, true) := by
  obtain ⟨x, hx, _⟩ := Good_here h
  refine ⟨x, hx, ?_⟩
  unfold told
  rw [if_pos (by omega), Int.toNat_natCast, hx]
theorem l64 {g : Prop} {nd nd0 : Int → NodeM × Int} {sv : AV} {P : Heap → Prop} (hv : SrcV [] nd sv P) (hP : ∀ K, P K) {root : Int} {its : List ItemM}
    (hnext : ∀ (i : Nat) ws, Good nd0 root its ws i → Maybe g nd0 root its (if (i : Int) + 1 = its.length then -1 else (i : Int) + 1) (stepN nd root true ws))
    (hok : ∀ ws at_, Rel nd0 root its ws at_ → okCs ws ∧ ws.length ≤ 999000000 ∧ ∀ s, ws.getLast? = some s → 0 ≤ s.k ∧ s.k ≤ 1000)
    {id : Nat} {Y : List Nat} {N : Nat} {J : Nat → Heap → Prop} (hy : Yd id Y N J) (cid rid base T : Nat) (hb : id < base ∧ ∀ j ∈ Y, j < base) (hcb : base ≤ cid ∧ base ≤ rid) (hN : T ≤ N) {Q : AExit → Env → Heap → Prop}
    (hex : ∀ f' K m, J m K → m ≤ T → (g → m = T) → Q (.exit 0) (mkE 33 f') (hx K [])) :
    ∀ (d : Nat) (at_ : Int) (ws : List StepM) (lv : AV) (m : Nat) (K : Heap) (f : Nat → AV), cnt its at_ ≤ d → Cur K cid sv root lv ws → Rel nd0 root its ws at_ → J m K → (g → m + cnt its at_ = T) → m + cnt its at_ ≤ T →
      (∀ j, OwnC K cid j → base ≤ j) → ¬ OwnC K cid rid → K.get rid = some (.box false (itemR (told its at_))) → f 0 = .yld id → f 5 = .ptr cid 0 0 → f 6 = .ptr rid 0 0 → f 7 = boolA (told its at_).2 →
      AW ft (.loop c64L0) (mkE 33 f) (hx K []) Q := by
  intro d
  induction d with
  | zero =>
    intro at_ ws lv m K f hd hc hr hJ hg1 hg2 how hro hrg f0 f5 f6 f7
    have hat : at_ = -1 := by
      rcases hr with ⟨_, rfl⟩ | ⟨i, rfl, hg⟩
      · rfl
      · obtain ⟨x, hxx, _⟩ := Good_here hg
        have := (List.getElem?_eq_some_iff.1 hxx).1
        unfold cnt at hd
        rw [if_neg (by omega), Int.toNat_natCast] at hd
        omega
    subst hat
    have e0 : cnt its (-1) = 0 := rfl
    rw [e0] at hg1 hg2
    have e1 : (told its (-1)).2 = false := rfl
    rw [e1] at f7
    rw [AW_loop]
    unfold c64L0
    simp only [↓vp, vq0, vq1, vq2, vq3, vr0, vr1, vr2, vr3, vr4, vr5, vr6, vr7, vr8, vr9, vr10, vr11, vr12, vr13, vr14, vr15, vr16, vr17, vr18, vr19, vr20, vr21, vr22, vr23, vr24, vr25, vr26, vr27, vr28, vr29, vr30, vr31, vr32, vr33, vr34, opS, fpS, okP, pack, nAl, allocA, shId, leaves, fillA, fillR, splice, Nat.reduceLT, Nat.reduceEqDiff, Nat.reduceLeDiff, Nat.reduceAdd, Nat.reduceSub, Nat.reduceMul, Int.reduceBEq, Int.reduceBNe, Int.reduceLT, Int.reduceLE, Int.reduceEq, reduceIte, reduceCtorEq, da, int, boolA, f7]
    exact hex _ _ m hJ (by omega) (fun h => by have := hg1 h; omega)
  | succ d ih =>
    intro at_ ws lv m K f hd hc hr hJ hg1 hg2 how hro hrg f0 f5 f6 f7
    rcases hr with ⟨hws, rfl⟩ | ⟨i, rfl, hg⟩
    · have e0 : cnt its (-1) = 0 := rfl
      rw [e0] at hg1 hg2
      have e1 : (told its (-1)).2 = false := rfl
      rw [e1] at f7
      rw [AW_loop]
      unfold c64L0
      simp only [↓vp, vq0, vq1, vq2, vq3, vr0, vr1, vr2, vr3, vr4, vr5, vr6, vr7, vr8, vr9, vr10, vr11, vr12, vr13, vr14, vr15, vr16, vr17, vr18, vr19, vr20, vr21, vr22, vr23, vr24, vr25, vr26, vr27, vr28, vr29, vr30, vr31, vr32, vr33, vr34, opS, fpS, okP, pack, nAl, allocA, shId, leaves, fillA, fillR, splice, Nat.reduceLT, Nat.reduceEqDiff, Nat.reduceLeDiff, Nat.reduceAdd, Nat.reduceSub, Nat.reduceMul, Int.reduceBEq, Int.reduceBNe, Int.reduceLT, Int.reduceLE, Int.reduceEq, reduceIte, reduceCtorEq, da, int, boolA, f7]
      exact hex _ _ m hJ (by omega) (fun h => by have := hg1 h; omega)
    · obtain ⟨x, hxx, e1⟩ := told_has hg
      have hxl := (List.getElem?_eq_some_iff.1 hxx).1
      have ec : cnt its i = its.length - i := by unfold cnt; rw [if_neg (by omega), Int.toNat_natCast]
      rw [ec] at hd hg1 hg2
      rw [e1] at f7 hrg
      have hrg' : K.get rid = some (.box false (itemC x)) := hrg
      have or := get_old hrg'
      obtain ⟨hlt1, hlt2⟩ := hy.lt m K hJ
      rw [AW_loop]
      unfold c64L0
      simp only [↓vp, vq0, vq1, vq2, vq3, vr0, vr1, vr2, vr3, vr4, vr5, vr6, vr7, vr8, vr9, vr10, vr11, vr12, vr13, vr14, vr15, vr16, vr17, vr18, vr19, vr20, vr21, vr22, vr23, vr24, vr25, vr26, vr27, vr28, vr29, vr30, vr31, vr32, vr33, vr34, opS, fpS, okP, pack, nAl, allocA, shId, leaves, fillA, fillR, splice, Nat.reduceLT, Nat.reduceEqDiff, Nat.reduceLeDiff, Nat.reduceAdd, Nat.reduceSub, Nat.reduceMul, Int.reduceBEq, Int.reduceBNe, Int.reduceLT, Int.reduceLE, Int.reduceEq, reduceIte, reduceCtorEq, da, int, boolA, f0, f6, f7, or]
      have hrun := hy.run m (hx K []) x (by rw [hx_nil]; exact hJ) (by omega)
      rw [hx_nil] at hrun
      refine KW_ex (P := fun K1 => J (m + 1) K1 ∧ K1.next = K.next ∧ ∀ j, j ∉ Y → K1.get j = K.get j) (by rw [hx_nil]; exact hrun) fun K1 hK1 => ?_
      obtain ⟨j1, j2, j3⟩ := hK1
      have ncY : cid ∉ Y := fun h => by have := hb.2 _ h; omega
      have nrY : rid ∉ Y := fun h => by have := hb.2 _ h; omega
      have own1 : ∀ j, OwnC K1 cid j ↔ OwnC K cid j := fun j => by
        unfold OwnC
        rw [j3 cid ncY]
      have cur1 : Cur K1 cid sv root lv ws := by
        refine ⟨by rw [j3 cid ncY]; exact hc.1, ?_⟩
        rcases hc.2 with h | ⟨id', rs, e, h2, h3⟩
        · exact .inl h
        · refine .inr ⟨id', rs, e, ?_, h3⟩
          have := how id' (.inr ⟨sv, int root, 0, ws.length, by rw [hc.1, e]⟩)
          rw [j3 id' (fun h => by have := hb.2 _ h; omega)]
          exact h2
      have rg1 : K1.get rid = some (.box false (itemC x)) := by rw [j3 rid nrY]; exact hrg'
      rw [← hx_nil K1]
      simp only [↓vp, vq0, vq1, vq2, vq3, vr0, vr1, vr2, vr3, vr4, vr5, vr6, vr7, vr8, vr9, vr10, vr11, vr12, vr13, vr14, vr15, vr16, vr17, vr18, vr19, vr20, vr21, vr22, vr23, vr24, vr25, vr26, vr27, vr28, vr29, vr30, vr31, vr32, vr33, vr34, opS, fpS, okP, pack, nAl, allocA, shId, leaves, fillA, fillR, splice, Nat.reduceLT, Nat.reduceEqDiff, Nat.reduceLeDiff, Nat.reduceAdd, Nat.reduceSub, Nat.reduceMul, Int.reduceBEq, Int.reduceBNe, Int.reduceLT, Int.reduceLE, Int.reduceEq, reduceIte, reduceCtorEq, da, int, boolA, f5]
      obtain ⟨o1, o2, o3⟩ := hok ws i (.inr ⟨i, rfl, hg⟩)
      refine KW_ex (s34 hv ⟨by simp, by simp⟩ (hP _) (cur1.hx []) o1 o2 o3) fun H' hP' => ?_
      rw [hx_nil] at hP'
      obtain ⟨lv', p1, p2⟩ := hP'
      have gq4 := p2.old _ _ rg1 (fun h => hro ((own1 _).1 h)) (by simp)
      have ho4 : ¬ OwnC H' cid rid := fun h => by
        rcases p2.own _ h with h | h
        · exact hro ((own1 _).1 h)
        · have := Heap.get_lt rg1; omega
      have how4 : ∀ j, OwnC H' cid j → base ≤ j := fun j h => by
        rcases p2.own _ h with h | h
        · exact how j ((own1 _).1 h)
        · have := Heap.get_lt hc.1; omega
      obtain ⟨t1, t2, t3⟩ := tail_box gq4
      have hJ4 : ∀ b, J (m + 1) (H'.set rid b) := fun b => hy.st _ K1 _ j1 fun j hj => by
        have hjb : j < base := by rcases hj with rfl | hj; exact hb.1; exact hb.2 _ hj
        obtain ⟨l1, l2⟩ := hy.lt _ _ j1
        have hjl : j < K1.next := by rcases hj with rfl | hj; exact l1; exact l2 _ hj
        obtain ⟨bb, hbb⟩ := get_of_lt hjl
        rw [Heap.get_set_ne _ (by omega), hbb]
        exact p2.old _ _ hbb (fun h => by have := how j ((own1 _).1 h); omega) (by simp)
      rw [← hx_nil H']
      have l4 : (itemC x).length = 4 := rfl
      have d4 : (itemC x).drop 4 = [] := rfl
      have hnx := hnext i ws hg
      generalize stepN nd root true ws = r at hnx p1
      unfold ansV
      simp only [↓vp, vq0, vq1, vq2, vq3, vr0, vr1, vr2, vr3, vr4, vr5, vr6, vr7, vr8, vr9, vr10, vr11, vr12, vr13, vr14, vr15, vr16, vr17, vr18, vr19, vr20, vr21, vr22, vr23, vr24, vr25, vr26, vr27, vr28, vr29, vr30, vr31, vr32, vr33, vr34, opS, fpS, okP, pack, nAl, allocA, shId, leaves, fillA, fillR, splice, Nat.reduceLT, Nat.reduceEqDiff, Nat.reduceLeDiff, Nat.reduceAdd, Nat.reduceSub, Nat.reduceMul, Int.reduceBEq, Int.reduceBNe, Int.reduceLT, Int.reduceLE, Int.reduceEq, reduceIte, reduceCtorEq, da, int, boolA, f6, ir_one, ir_len, t1, t2, t3, l4, d4]
      rcases hnx with hR | ⟨hng, rfl⟩
      · obtain ⟨hR1, hR2⟩ := hR
        generalize hat : (if (i : Int) + 1 = its.length then (-1 : Int) else (i : Int) + 1) = at1 at *
        have hc1 : cnt its at1 + 1 = its.length - i := by
          rw [← hat]
          unfold cnt
          split
          · rw [if_pos rfl]; omega
          · rw [if_neg (by omega)]; omega
        refine ih at1 r.2 lv' (m + 1) _ _ (by omega) (cur_set p1 ho4 _) hR2 (hJ4 _) (fun h => by have := hg1 h; omega) (by omega) (fun j h => how4 j ?_) ?_ ?_ ?_ ?_ ?_ ?_
        · rcases h with h | ⟨s, r, o, l, h⟩
          · exact .inl h
          · rw [Heap.get_set_ne _ (fun e => ho4 (.inl e.symm))] at h; exact .inr ⟨s, r, o, l, h⟩
        · intro h
          rcases h with h | ⟨s, r, o, l, h⟩
          · exact ho4 (.inl h)
          · rw [Heap.get_set_ne _ (fun e => ho4 (.inl e.symm))] at h; exact ho4 (.inr ⟨s, r, o, l, h⟩)
        · rw [Heap.get_set_self _ (Heap.get_lt gq4), hR1]
        all_goals simp only [↓vp, vq0, vq1, vq2, vq3, vr0, vr1, vr2, vr3, vr4, vr5, vr6, vr7, vr8, vr9, vr10, vr11, vr12, vr13, vr14, vr15, vr16, vr17, vr18, vr19, vr20, vr21, vr22, vr23, vr24, vr25, vr26, vr27, vr28, vr29, vr30, vr31, vr32, vr33, vr34, opS, fpS, okP, pack, nAl, allocA, shId, leaves, fillA, fillR, splice, Nat.reduceLT, Nat.reduceEqDiff, Nat.reduceLeDiff, Nat.reduceAdd, Nat.reduceSub, Nat.reduceMul, Int.reduceBEq, Int.reduceBNe, Int.reduceLT, Int.reduceLE, Int.reduceEq, reduceIte, reduceCtorEq, da, int, boolA, f0, f5, f6, hR1]
      · have hc1 : cnt its (-1) = 0 := rfl
        have hR1 : told its (-1) = (nilI, false) := rfl
        refine ih (-1) [] lv' (m + 1) _ _ (by omega) (cur_set p1 ho4 _) (.inl ⟨rfl, rfl⟩) (hJ4 _) (fun h => absurd h hng) (by omega) (fun j h => how4 j ?_) ?_ ?_ ?_ ?_ ?_ ?_
        · rcases h with h | ⟨s, r, o, l, h⟩
          · exact .inl h
          · rw [Heap.get_set_ne _ (fun e => ho4 (.inl e.symm))] at h; exact .inr ⟨s, r, o, l, h⟩
        · intro h
          rcases h with h | ⟨s, r, o, l, h⟩
          · exact ho4 (.inl h)
          · rw [Heap.get_set_ne _ (fun e => ho4 (.inl e.symm))] at h; exact ho4 (.inr ⟨s, r, o, l, h⟩)
        · rw [Heap.get_set_self _ (Heap.get_lt gq4), hR1]
        all_goals simp only [↓vp, vq0, vq1, vq2, vq3, vr0, vr1, vr2, vr3, vr4, vr5, vr6, vr7, vr8, vr9, vr10, vr11, vr12, vr13, vr14, vr15, vr16, vr17, vr18, vr19, vr20, vr21, vr22, vr23, vr24, vr25, vr26, vr27, vr28, vr29, vr30, vr31, vr32, vr33, vr34, opS, fpS, okP, pack, nAl, allocA, shId, leaves, fillA, fillR, splice, Nat.reduceLT, Nat.reduceEqDiff, Nat.reduceLeDiff, Nat.reduceAdd, Nat.reduceSub, Nat.reduceMul, Int.reduceBEq, Int.reduceBNe, Int.reduceLT, Int.reduceLE, Int.reduceEq, reduceIte, reduceCtorEq, da, int, boolA, f0, f5, f6, hR1]
def eachF (sv : AV) (root : Int) (key : Bytes) : AV := .fn (.func 64) [] [.pim [[sv]] 0 0, .pim [[int root]] 0 0, .pim [[encB key]] 0 0]
theorem s64 {g : Prop} {nd nd0 : Int → NodeM × Int} {sv : AV} {P : Heap → Prop} (hv : SrcV [] nd sv P) (hP : ∀ K, P K) {root : Int} {its : List ItemM} {key : Bytes} (hkey : okB key) {at0 : Int}
    (hseek : Maybe g nd0 root its at0 (seekC nd root key))
    (hnext : ∀ (i : Nat) ws, Good nd0 root its ws i → Maybe g nd0 root its (if (i : Int) + 1 = its.length then -1 else (i : Int) + 1) (stepN nd root true ws))
    (hok : ∀ ws at_, Rel nd0 root its ws at_ → okCs ws ∧ ws.length ≤ 999000000 ∧ ∀ s, ws.getLast? = some s → 0 ≤ s.k ∧ s.k ≤ 1000)
    {id : Nat} {Y : List Nat} {N : Nat} {J : Nat → Heap → Prop} (hy : Yd id Y N J) {H : Heap} {m0 : Nat} (hJ : J m0 H) (hN : m0 + cnt its at0 ≤ N) :
    ∃ H', callL ft (eachF sv root key) [.yld id] H = some (.tup [], H') ∧ ∃ m, J m H' ∧ m ≤ m0 + cnt its at0 ∧ (g → m = m0 + cnt its at0) := by
  refine call_oE (caps := [.pim [[sv]] 0 0, .pim [[int root]] 0 0, .pim [[encB key]] 0 0]) rfl (by simp) ?_
  obtain ⟨hb1, hb2⟩ := hy.lt _ _ hJ
  have ip : ∀ a b c, isnilA 1 (.ptr a b c) = some false := fun _ _ _ => rfl
  have q30 := fun K L Q => (KW_of (s30 hv (hx K L) root) : KW ft (.fn (.func 30) [] []) [sv, int root] (hx K L) Q ↔ _)
  simp only [int] at q30
  have c1 : ∀ H off n, cellsAt H (.pim [[sv]] 0 off) n = if off + n ≤ 1 then some ((([sv] : List AV).drop off).take n) else none := fun _ _ _ => rfl
  have c2 : ∀ H off n, cellsAt H (.pim [[int root]] 0 off) n = if off + n ≤ 1 then some ((([int root] : List AV).drop off).take n) else none := fun _ _ _ => rfl
  have c3 : ∀ H off n, cellsAt H (.pim [[encB key]] 0 off) n = if off + n ≤ 1 then some ((([encB key] : List AV).drop off).take n) else none := fun _ _ _ => rfl
  simp only [int] at c2
  unfold c64
  simp only [↓vp, vq0, vq1, vq2, vq3, vr0, vr1, vr2, vr3, vr4, vr5, vr6, vr7, vr8, vr9, vr10, vr11, vr12, vr13, vr14, vr15, vr16, vr17, vr18, vr19, vr20, vr21, vr22, vr23, vr24, vr25, vr26, vr27, vr28, vr29, vr30, vr31, vr32, vr33, vr34, opS, fpS, okP, pack, nAl, allocA, shId, leaves, fillA, fillR, splice, Nat.reduceLT, Nat.reduceEqDiff, Nat.reduceLeDiff, Nat.reduceAdd, Nat.reduceSub, Nat.reduceMul, Int.reduceBEq, Int.reduceBNe, Int.reduceLT, Int.reduceLE, Int.reduceEq, reduceIte, reduceCtorEq, da, int, boolA, c1, c2, c3, q30, hx_hx, ip]
  have hc0 : Cur (hx H [.box false [sv, int root, .sc (.slice none 0 0)]]) H.next sv root (.sc (.slice none 0 0)) [] := ⟨by rw [hx_get0]; rfl, .inl ⟨rfl, rfl⟩⟩
  refine KW_ex (s37 hv ⟨by simp, by simp⟩ (hP _) hc0 hkey (nb_B key)) fun H' hP' => ?_
  obtain ⟨lv', p1, p2⟩ := hP'
  have own0 : ∀ j, OwnC (hx H [.box false [sv, int root, .sc (.slice none 0 0)]]) H.next j → H.next ≤ j := fun j h => by
    rcases h with h | ⟨s, r, o, l, h⟩
    · omega
    · rw [hc0.1] at h
      simp at h
  have how : ∀ j, OwnC H' H.next j → H.next ≤ j := fun j h => by
    rcases p2.own _ h with h | h
    · exact own0 j h
    · rw [hx_next] at h; omega
  have hle := p2.le
  rw [hx_next] at hle
  have hJ' : ∀ b, J m0 (hx H' [b]) := fun b => hy.st _ H _ hJ fun j hj => by
    have hjl : j < H.next := by rcases hj with rfl | hj; exact hb1; exact hb2 _ hj
    obtain ⟨bb, hbb⟩ := get_of_lt hjl
    rw [hbb]
    exact get_old (p2.old _ _ (get_old hbb _) (fun h => by have := own0 j h; omega) (by simp)) _
  have own' : ∀ (b : Blk) j, OwnC (hx H' [b]) H.next j → OwnC H' H.next j := fun b j h => own_hx (Heap.get_lt p1.1) h
  have hrid : ∀ b, ¬ OwnC (hx H' [b]) H.next H'.next := fun b h => by have := own_lt p1 (own' b _ h); omega
  rw [← hx_nil H']
  generalize seekC nd root key = r at hseek p1
  unfold ansV
  have i4 : ∀ q, (itemR q).length = 4 := ir_len
  simp only [↓vp, vq0, vq1, vq2, vq3, vr0, vr1, vr2, vr3, vr4, vr5, vr6, vr7, vr8, vr9, vr10, vr11, vr12, vr13, vr14, vr15, vr16, vr17, vr18, vr19, vr20, vr21, vr22, vr23, vr24, vr25, vr26, vr27, vr28, vr29, vr30, vr31, vr32, vr33, vr34, opS, fpS, okP, pack, nAl, allocA, shId, leaves, fillA, fillR, splice, Nat.reduceLT, Nat.reduceEqDiff, Nat.reduceLeDiff, Nat.reduceAdd, Nat.reduceSub, Nat.reduceMul, Int.reduceBEq, Int.reduceBNe, Int.reduceLT, Int.reduceLE, Int.reduceEq, reduceIte, reduceCtorEq, da, int, boolA, ir_one, ir_len]
  rw [← hx_nil (hx _ _)]
  have hq0 : ∀ b, (hx H' [b]).get H'.next = some b := fun b => by rw [hx_get0]; rfl
  rcases hseek with ⟨hR1, hR2⟩ | ⟨hng, rfl⟩
  · refine l64 hv hP hnext hok hy H.next H'.next H.next (m0 + cnt its at0) ⟨hb1, hb2⟩ ⟨Nat.le_refl _, by omega⟩ hN (fun f' K m hJm hm1 hm2 => ?_) (cnt its at0) at0 r.2 lv' m0 (hx H' [.box false (itemR r.1.1)]) _ (Nat.le_refl _) (p1.hx _) hR2 (hJ' _) (fun _ => rfl) (Nat.le_refl _) (fun j h => how j (own' _ _ h)) (hrid _) (by rw [hq0, hR1]) ?_ ?_ ?_ ?_
    · unfold r64
      simp only [↓vp, vq0, vq1, vq2, vq3, vr0, vr1, vr2, vr3, vr4, vr5, vr6, vr7, vr8, vr9, vr10, vr11, vr12, vr13, vr14, vr15, vr16, vr17, vr18, vr19, vr20, vr21, vr22, vr23, vr24, vr25, vr26, vr27, vr28, vr29, vr30, vr31, vr32, vr33, vr34, opS, fpS, okP, pack, nAl, allocA, shId, leaves, fillA, fillR, splice, Nat.reduceLT, Nat.reduceEqDiff, Nat.reduceLeDiff, Nat.reduceAdd, Nat.reduceSub, Nat.reduceMul, Int.reduceBEq, Int.reduceBNe, Int.reduceLT, Int.reduceLE, Int.reduceEq, reduceIte, reduceCtorEq, da, int, boolA, RetE_go, resT, resC, resN, retV0]
      rw [hx_nil]
      exact ⟨m, hJm, hm1, hm2⟩
    all_goals simp only [↓vp, vq0, vq1, vq2, vq3, vr0, vr1, vr2, vr3, vr4, vr5, vr6, vr7, vr8, vr9, vr10, vr11, vr12, vr13, vr14, vr15, vr16, vr17, vr18, vr19, vr20, vr21, vr22, vr23, vr24, vr25, vr26, vr27, vr28, vr29, vr30, vr31, vr32, vr33, vr34, opS, fpS, okP, pack, nAl, allocA, shId, leaves, fillA, fillR, splice, Nat.reduceLT, Nat.reduceEqDiff, Nat.reduceLeDiff, Nat.reduceAdd, Nat.reduceSub, Nat.reduceMul, Int.reduceBEq, Int.reduceBNe, Int.reduceLT, Int.reduceLE, Int.reduceEq, reduceIte, reduceCtorEq, da, int, boolA, hR1]
  · refine l64 hv hP hnext hok hy H.next H'.next H.next (m0 + cnt its at0) ⟨hb1, hb2⟩ ⟨Nat.le_refl _, by omega⟩ hN (fun f' K m hJm hm1 hm2 => ?_) 0 (-1) [] lv' m0 (hx H' [.box false itemN]) _ (Nat.le_refl _) (p1.hx _) (.inl ⟨rfl, rfl⟩) (hJ' _) (fun h => absurd h hng) (Nat.le_add_right _ _) (fun j h => how j (own' _ _ h)) (hrid _) (by rw [hq0]; rfl) ?_ ?_ ?_ ?_
    · unfold r64
      simp only [↓vp, vq0, vq1, vq2, vq3, vr0, vr1, vr2, vr3, vr4, vr5, vr6, vr7, vr8, vr9, vr10, vr11, vr12, vr13, vr14, vr15, vr16, vr17, vr18, vr19, vr20, vr21, vr22, vr23, vr24, vr25, vr26, vr27, vr28, vr29, vr30, vr31, vr32, vr33, vr34, opS, fpS, okP, pack, nAl, allocA, shId, leaves, fillA, fillR, splice, Nat.reduceLT, Nat.reduceEqDiff, Nat.reduceLeDiff, Nat.reduceAdd, Nat.reduceSub, Nat.reduceMul, Int.reduceBEq, Int.reduceBNe, Int.reduceLT, Int.reduceLE, Int.reduceEq, reduceIte, reduceCtorEq, da, int, boolA, RetE_go, resT, resC, resN, retV0]
      rw [hx_nil]
      exact ⟨m, hJm, hm1, hm2⟩
    all_goals first | rfl | (simp only [↓vp, vq0, vq1, vq2, vq3, vr0, vr1, vr2, vr3, vr4, vr5, vr6, vr7, vr8, vr9, vr10, vr11, vr12, vr13, vr14, vr15, vr16, vr17, vr18, vr19, vr20, vr21, vr22, vr23, vr24, vr25, vr26, vr27, vr28, vr29, vr30, vr31, vr32, vr33, vr34, opS, fpS, okP, pack, nAl, allocA, shId, leaves, fillA, fillR, splice, Nat.reduceLT, Nat.reduceEqDiff, Nat.reduceLeDiff, Nat.reduceAdd, Nat.reduceSub, Nat.reduceMul, Int.reduceBEq, Int.reduceBNe, Int.reduceLT, Int.reduceLE, Int.reduceEq, reduceIte, reduceCtorEq, da, int, boolA]; done) | (simp only [↓vp, vq0, vq1, vq2, vq3, vr0, vr1, vr2, vr3, vr4, vr5, vr6, vr7, vr8, vr9, vr10, vr11, vr12, vr13, vr14, vr15, vr16, vr17, vr18, vr19, vr20, vr21, vr22, vr23, vr24, vr25, vr26, vr27, vr28, vr29, vr30, vr31, vr32, vr33, vr34, opS, fpS, okP, pack, nAl, allocA, shId, leaves, fillA, fillR, splice, Nat.reduceLT, Nat.reduceEqDiff, Nat.reduceLeDiff, Nat.reduceAdd, Nat.reduceSub, Nat.reduceMul, Int.reduceBEq, Int.reduceBNe, Int.reduceLT, Int.reduceLE, Int.reduceEq, reduceIte, reduceCtorEq, da, int, boolA]; rfl)
theorem s39 {sv' : AV} {root : Int} {key : Bytes} (h1 : sv'.one = true) (hc : sv'.cells = [sv']) (hz' : ∀ n H, frz (n + 8) H sv' = some (sv', H)) {args : List AV} {H H1 : Heap} (hz : frzCells H args = some ([sv', int root, encB key], H1)) : callL ft (.fn (.func 39) [] []) args H = some (eachF sv' root key, H1) := by
  refine call_p (as' := [sv', int root, encB key]) rfl (by simpa using hz) (by simp) ?_
  unfold c39 r39
  simp only [↓vp, vq0, vq1, vq2, vq3, vr0, vr1, vr2, vr3, vr4, vr5, vr6, vr7, vr8, vr9, vr10, vr11, vr12, vr13, vr14, vr15, vr16, vr17, vr18, vr19, vr20, vr21, vr22, vr23, vr24, vr25, vr26, vr27, vr28, vr29, vr30, vr31, vr32, vr33, vr34, opS, fpS, okP, pack, nAl, allocA, shId, leaves, fillA, fillR, splice, Nat.reduceLT, Nat.reduceEqDiff, Nat.reduceLeDiff, Nat.reduceAdd, Nat.reduceSub, Nat.reduceMul, Int.reduceBEq, Int.reduceBNe, Int.reduceLT, Int.reduceLE, Int.reduceEq, reduceIte, reduceCtorEq, da, int, boolA, h1, hc, RetP_go, resT, resN, retV1, frzFZ, hz']
  rfl
/-- A loop that counts. -/
theorem range_count {g : Prop} {nd nd0 : Int → NodeM × Int} {sv : AV} {P : Heap → Prop} (hv : SrcV [] nd sv P) (hP : ∀ K, P K) {root : Int} {its : List ItemM} {key : Bytes} (hkey : okB key) {at0 : Int}
    (hseek : Maybe g nd0 root its at0 (seekC nd root key))
    (hnext : ∀ (i : Nat) ws, Good nd0 root its ws i → Maybe g nd0 root its (if (i : Int) + 1 = its.length then -1 else (i : Int) + 1) (stepN nd root true ws))
    (hok : ∀ ws at_, Rel nd0 root its ws at_ → okCs ws ∧ ws.length ≤ 999000000 ∧ ∀ s, ws.getLast? = some s → 0 ≤ s.k ∧ s.k ≤ 1000)
    {n t p ns nid : Nat} {f : Nat → AV} {body : ACode} (ht : t < n) (hft : f t = eachF sv root key) (hp : p ≠ ns) (hfn : f ns = .ptr nid 0 0)
    (hbody : ∀ (K : Heap) (f' : Nat → AV) (m : Nat), f' ns = .ptr nid 0 0 → K.get nid = some (.box false [int m]) → m < 1000000 → AW ft body (mkE n f') (hx K []) fun x _ H2 => x = .normal ∧ H2 = K.set nid (.box false [int ((m + 1 : Nat) : Int)]))
    {H : Heap} (hn : H.get nid = some (.box false [int 0])) (hN : cnt its at0 ≤ 1000000) (Z : List Nat) (hZ : ∀ j ∈ Z, j < H.next ∧ j ≠ nid) {Q : AExit → Env → Heap → Prop}
    (hq : ∀ (H' : Heap) (m : Nat), m ≤ cnt its at0 → (g → m = cnt its at0) → H'.get nid = some (.box false [int m]) → (∀ j ∈ Z, H'.get j = H.get j) → Q .normal (mkE n f) H') : AW ft (.rangeF (.tmp t) [p] .skip body) (mkE n f) H Q := by
  have hev : ev (mkE n f) (.tmp t) = eachF sv root key := by rw [ev_tmp, if_pos ht, hft]
  have hnl := Heap.get_lt hn
  have hlp : (H.push (.loop .ready (mkE n f) [p] .skip body none)).get H.next = some (.loop .ready (mkE n f) [p] .skip body none) := by simp
  refine AW_rangeF (by rw [hev]; rfl) ?_
  rw [hev]
  let J : Nat → Heap → Prop := fun m G => G.get H.next = some (.loop .ready (mkE n f) [p] .skip body none) ∧ G.get nid = some (.box false [int (m : Int)]) ∧ ∀ j ∈ Z, G.get j = H.get j
  have hJ0 : J 0 (H.push (.loop .ready (mkE n f) [p] .skip body none)) := ⟨hlp, by rw [Heap.get_push_old _ _ _ hnl]; exact hn, fun j hj => Heap.get_push_old _ _ _ (hZ j hj).1⟩
  have hy : Yd H.next (nid :: Z) 1000000 J := by
    refine ⟨fun m K x hJ hm => ?_, fun m K K' hJ hk => ?_, fun m K hJ => ?_⟩
    · obtain ⟨j1, j2, j3⟩ := hJ
      have l1 := Heap.get_lt j1
      have l2 := Heap.get_lt j2
      have hne : nid ≠ H.next := by omega
      refine yld_of (R := fun K' => J (m + 1) K' ∧ K'.next = K.next ∧ ∀ j, j ∉ nid :: Z → K'.get j = K.get j) j1 rfl ?_
      have hs : setAll (mkE n f) [p] [.agg (itemC x)] = mkE n (upd f p (.agg (itemC x))) := putA_mkE n f p (.agg (itemC x))
      rw [hs, ← hx_nil (K.set _ _)]
      refine AW.mono (hbody _ _ m (by rw [upd_at, if_neg (Ne.symm hp)]; exact hfn) (by rw [Heap.get_set_ne _ hne]; exact j2) hm) fun x' e' H2 hh => ?_
      obtain ⟨rfl, rfl⟩ := hh
      refine ⟨rfl, ?_, ⟨?_, ?_, fun j hj => ?_⟩, by simp, fun j hj => ?_⟩
      · rw [Heap.get_set_ne _ (Ne.symm hne), Heap.get_set_self _ l1]
      · rw [Heap.get_set_self _ (by simpa using l1)]
      · rw [Heap.get_set_ne _ hne, Heap.get_set_self _ (by simpa using l2)]
      · have := (hZ j hj)
        rw [Heap.get_set_ne _ (by omega), Heap.get_set_ne _ this.2, Heap.get_set_ne _ (by omega)]
        exact j3 j hj
      · have h1 : j ≠ nid := fun e => hj (by simp [e])
        by_cases h2 : j = H.next
        · subst h2
          rw [Heap.get_set_self _ (by simpa using l1), j1]
        · rw [Heap.get_set_ne _ h2, Heap.get_set_ne _ h1, Heap.get_set_ne _ h2]
    · obtain ⟨j1, j2, j3⟩ := hJ
      exact ⟨by rw [hk _ (.inl rfl)]; exact j1, by rw [hk nid (.inr (by simp))]; exact j2, fun j hj => by rw [hk j (.inr (by simp [hj]))]; exact j3 j hj⟩
    · obtain ⟨j1, j2, j3⟩ := hJ
      refine ⟨Heap.get_lt j1, fun j hj => ?_⟩
      rcases List.mem_cons.1 hj with rfl | hj
      · exact Heap.get_lt j2
      · obtain ⟨b, hb⟩ := get_of_lt (hZ j hj).1
        rw [← j3 j hj] at hb
        exact Heap.get_lt hb
  obtain ⟨H', h1, m, ⟨k1, k2, k3⟩, hm1, hm2⟩ := s64 hv hP hkey hseek hnext hok hy hJ0 (by omega)
  rw [Nat.zero_add] at hm1 hm2
  refine ⟨_, H', h1, .normal, mkE n f, H'.set H.next .dead, ?_, ?_⟩
  · unfold rangeE
    rw [k1]
  · refine hq _ m hm1 hm2 ?_ fun j hj => ?_
    · rw [Heap.get_set_ne _ (by omega)]; exact k2
    · rw [Heap.get_set_ne _ (by have := (hZ j hj).1; omega)]
      exact k3 j hj
end Go.VI

set_option linter.unusedVariables false
set_option linter.unusedSimpArgs false
set_option maxRecDepth 100000
namespace Go.VI
attribute [local congr] AW_congr OW_congr DW_congr NW_congr VW_congr GW_congr PW_congr KW_congr ite_congr' GV_congr CV_congr
def cItem : ItemM := ⟨[99], [], 0, 0⟩
def dItem : ItemM := ⟨[100], [], 0, 0⟩
def three : List ItemM := [aItem, cItem, dItem]
theorem three_rise : RiseI three := by
  refine List.Pairwise.cons ?_ (List.Pairwise.cons ?_ (List.Pairwise.cons ?_ .nil)) <;> intro x hx <;> simp [cItem, dItem] at hx
  · rcases hx with rfl | rfl <;> decide
  · subst hx; decide
theorem three_ok : okI three := ⟨by decide, fun x hx => by
  simp [three] at hx
  rcases hx with rfl | rfl | rfl <;> exact ⟨⟨by decide, rfl⟩, ⟨by decide, rfl⟩⟩⟩
theorem three_few : fewM (madeM three 1 3).1 = true := by rfl
/-- The tree that alive builds. -/
theorem three_tree : ∃ l root, madeM three 1 3 = (l, root) ∧ okL l ∧ tinyL l ∧ (allM l root).2 = 0 ∧ (allM l root).1.items = three := by
  obtain ⟨a1, a2, _⟩ := made_all three (by decide) 1 3 (by decide) (by decide) three_rise
  have hl := made_ok three three_ok (by decide) 1 3 (by decide) (by decide)
  exact ⟨_, _, rfl, hl, few_tiny hl three_few, a1, a2⟩
theorem x26c {l : List NamedM} {root : Int} (hM : madeM three 1 3 = (l, root)) {K : Heap} {L : List Blk} {id : Nat} {Q : AV → Heap → Prop} (h : (hx K L).get id = some (.row false 4 [[.lst [[.sc (.int .u8 97)]], .lst [], .sc (.int .i64 0), .sc (.int .i64 0)], [.lst [[.sc (.int .u8 99)]], .lst [], .sc (.int .i64 0), .sc (.int .i64 0)], [.lst [[.sc (.int .u8 100)]], .lst [], .sc (.int .i64 0), .sc (.int .i64 0)]])) :
    KW ft (.fn (.func 26) [] []) [.sl id 0 3, .sc (.int .i64 1), .sc (.int .i64 3)] (hx K L) Q ↔ Q (.tup [encL l, int root]) ((hx K L).set id (.row true 4 [itemC aItem, itemC cItem, itemC dItem])) := by
  have := KW_of (K := Q) (s26g three (by decide) 1 3 (by decide) (by decide) ((hx K L).set id (.row true 4 [itemC aItem, itemC cItem, itemC dItem])))
  rw [hM] at this
  exact (KW_eq (callL_fz (bs := [encI three, int 1, int 3]) rfl (by simp only [frzCells_eq, frzL_cons, frzL_nil, frz_int, fz_sl1 (len := 3) h rfl, Option.bind_some]; rfl) rfl)).trans this
/-- Seek, by a key that grows. -/
theorem s37s {l : List NamedM} (hl : okL l) (ht : tinyL l) {H : Heap} {cid : Nat} {root : Int} {lv : AV} {ws : List StepM} (hc : Cur H cid (srcF l) root lv ws) {id : Nat} {b : Int} (hb : okB [b]) (hid : H.get id = some (.row false 1 [[.sc (.int .u8 b)]])) (ho : ¬ OwnC H cid id) :
    ∃ H', callL ft (.fn (.func 37) [] []) [.ptr cid 0 0, .sl id 0 1] H = some (ansV (seekC (nodeM l) root [b]).1, H') ∧ ∃ lv', Cur H' cid (srcF l) root lv' (seekC (nodeM l) root [b]).2 ∧ KeepC cid [id] H H' := by
  have hv := srcV_F hl ht
  have hlt := Heap.get_lt hid
  have hne : cid ≠ id := fun e => ho (.inl e.symm)
  refine s37g hv (X' := [id]) ⟨by simpa using hne, by simpa using hlt⟩ (fun _ h => by simp at h) (fun j hj h => by
    have : j = id := by simpa using h
    subst this
    exact ho hj) hc (fun Q hq => ?_)
  have h1 : callL ft (.fn (.func 16) [] []) [srcF l, .sc (.int .i64 root), .sl id 0 1] (hx H [.box false itemN]) = some (.tup [encS (wayX (pathK [b]) (nodeM l) root).1, int (wayX (pathK [b]) (nodeM l) root).2], hx (H.set id (.row true 1 [[.sc (.int .u8 b)]])) [.box false itemN]) := by
    refine s16x (srcP_F hl ht) root [b] hb ?_
    simp only [frzCells_eq, frzL_cons, frzL_nil, fz_src, frz_int, fz_sl1 (len := 1) (get_old hid _) rfl, Option.bind_some, hx_set_old _ _ _ _ hlt]
    rfl
  refine (KW_of h1).2 (hq _ trivial ⟨by simp, fun j hj => ?_, fun j hj fz c hg => ?_⟩)
  · rw [Heap.get_set_ne _ (by simpa using hj)]
  · have : j = id := by simpa using hj
    subst this
    rw [hid] at hg
    cases hg
theorem x39 {l : List NamedM} {root : Int} {K : Heap} {L : List Blk} {id : Nat} {b : Int} {Q : AV → Heap → Prop} (h : (hx K L).get id = some (.row false 1 [[.sc (.int .u8 b)]])) :
    KW ft (.fn (.func 39) [] []) [srcF l, .sc (.int .i64 root), .sl id 0 1] (hx K L) Q ↔ Q (eachF (srcF l) root [b]) ((hx K L).set id (.row true 1 [[.sc (.int .u8 b)]])) :=
  KW_of (s39 rfl rfl (fun _ _ => rfl) (by
    simp only [frzCells_eq, frzL_cons, frzL_nil, fz_src, frz_int, fz_sl1 (len := 1) h rfl, Option.bind_some]
    rfl))
theorem keep_box {H H' : Heap} {cid i : Nat} {X : List Nat} {b : Blk} (hK : KeepC cid X H H') (h : H.get i = some b) (ho : ¬ OwnC H cid i) (hx : i ∉ X) : H'.get i = some b ∧ ¬ OwnC H' cid i := by
  refine ⟨hK.old _ _ h ho hx, fun h2 => ?_⟩
  rcases hK.own _ h2 with h2 | h2
  · exact ho h2
  · have := Heap.get_lt h; omega
theorem steps3 {l : List NamedM} {root : Int} (h0 : (allM l root).2 = 0) (hits : (allM l root).1.items = three) :
    ((seekC (nodeM l) root [98]).1 = ((cItem, true), 0) ∧ Rel (nodeM l) root three (seekC (nodeM l) root [98]).2 1) ∧
    ∀ w1, Rel (nodeM l) root three w1 1 → ((stepN (nodeM l) root false w1).1 = ((aItem, true), 0) ∧ Rel (nodeM l) root three (stepN (nodeM l) root false w1).2 0) ∧
    ∀ w2, Rel (nodeM l) root three w2 0 → ((stepN (nodeM l) root false w2).1 = ((nilI, false), 0) ∧ Rel (nodeM l) root three (stepN (nodeM l) root false w2).2 (-1)) ∧ (edgeC (nodeM l) root true).1 = ((dItem, true), 0) := by
  have key := fun o ho ws at_ hr => do_good h0 o ho (ws := ws) (at_ := at_) hr
  rw [hits] at key
  refine ⟨?_, fun w1 hw1 => ⟨?_, fun w2 hw2 => ⟨?_, ?_⟩⟩⟩
  · exact key ⟨0, [98]⟩ ⟨by decide, by decide⟩ [] (-1) (.inl ⟨rfl, rfl⟩)
  · exact key ⟨4, []⟩ ⟨by decide, by decide⟩ w1 1 hw1
  · exact key ⟨4, []⟩ ⟨by decide, by decide⟩ w2 0 hw2
  · exact (key ⟨2, []⟩ ⟨by decide, by decide⟩ [] (-1) (.inl ⟨rfl, rfl⟩)).1
theorem keep_boxx {H H' : Heap} {cid i : Nat} {b : Blk} {L : List Blk} (hc : cid < H.next) (h : H.get i = some b) (ho : ¬ OwnC H cid i) (hK : KeepC cid [] (hx H L) H') : H'.get i = some b ∧ ¬ OwnC H' cid i :=
  keep_box hK (get_old h L) (fun h => ho (own_hx hc h)) (by simp)
theorem s28a {l : List NamedM} {root : Int} (hM : madeM three 1 3 = (l, root)) (hl : okL l) (ht : tinyL l) (h0 : (allM l root).2 = 0) (hits : (allM l root).1.items = three) (H : Heap) : callL ft (.fn (.func 28) [] []) [] H = some (boolA true, H) := by
  refine call_p (as' := []) rfl rfl (by simp) ?_
  have hv := srcV_F hl ht
  have ip : ∀ a b c, isnilA 1 (.ptr a b c) = some false := fun _ _ _ => rfl
  have ipn : isnilA 1 (.sc (.pointer none)) = some true := rfl
  have q30 := fun K L Q => (KW_of (s30 hv (hx K L) root) : KW ft (.fn (.func 30) [] []) [srcF l, int root] (hx K L) Q ↔ _)
  have q30n := fun K L Q => (KW_of (s30n (hx K L) root) : KW ft (.fn (.func 30) [] []) [.sc .nilFunc, int root] (hx K L) Q ↔ _)
  simp only [int] at q30 q30n
  unfold c28 r28
  simp only [↓vp, vq0, vq1, vq2, vq3, vr0, vr1, vr2, vr3, vr4, vr5, vr6, vr7, vr8, vr9, vr10, vr11, vr12, vr13, vr14, vr15, vr16, vr17, vr18, vr19, vr20, vr21, vr22, vr23, vr24, vr25, vr26, vr27, vr28, vr29, vr30, vr31, vr32, vr33, vr34, opS, fpS, okP, pack, nAl, allocA, shId, leaves, fillA, fillR, splice, Nat.reduceLT, Nat.reduceEqDiff, Nat.reduceLeDiff, Nat.reduceAdd, Nat.reduceSub, Nat.reduceMul, Int.reduceBEq, Int.reduceBNe, Int.reduceLT, Int.reduceLE, Int.reduceEq, reduceIte, reduceCtorEq, da, int, boolA, clIt, rsz, x26c hM, k17, q30, q30n, hx_hx, ip, ipn]
  obtain ⟨⟨a1, a2⟩, S2⟩ := steps3 h0 hits
  generalize hG : hx Heap.empty _ = G0
  have hc0 : Cur G0 4 (srcF l) root (.sc (.slice none 0 0)) [] := ⟨by rw [← hG, hxe_get]; rfl, .inl ⟨rfl, rfl⟩⟩
  have hk5 : G0.get 5 = some (.row false 1 [[.sc (.int .u8 98)]]) := by rw [← hG, hxe_get]; rfl
  have ho5 : ¬ OwnC G0 4 5 := fun h => by
    rcases h with h | ⟨s, r, o, l, h⟩
    · cases h
    · rw [hc0.1] at h; simp at h
  refine KW_ex (s37s hl ht hc0 (b := 98) ⟨by decide, rfl⟩ hk5 ho5) fun H1 hP1 => ?_
  obtain ⟨lv1, c1, k1⟩ := hP1
  obtain ⟨⟨b1, b2⟩, S3⟩ := S2 _ a2
  obtain ⟨⟨d1, d2⟩, e1⟩ := S3 _ b2
  rw [a1, ← hx_nil H1]
  unfold ansV itemR
  have hok := fun ws at_ (hr : Rel (nodeM l) root three ws at_) => Rel_ok hv.ok hv.tiny hr
  simp only [↓vp, vq0, vq1, vq2, vq3, vr0, vr1, vr2, vr3, vr4, vr5, vr6, vr7, vr8, vr9, vr10, vr11, vr12, vr13, vr14, vr15, vr16, vr17, vr18, vr19, vr20, vr21, vr22, vr23, vr24, vr25, vr26, vr27, vr28, vr29, vr30, vr31, vr32, vr33, vr34, opS, fpS, okP, pack, nAl, allocA, shId, leaves, fillA, fillR, splice, Nat.reduceLT, Nat.reduceEqDiff, Nat.reduceLeDiff, Nat.reduceAdd, Nat.reduceSub, Nat.reduceMul, Int.reduceBEq, Int.reduceBNe, Int.reduceLT, Int.reduceLE, Int.reduceEq, reduceIte, reduceCtorEq, da, int, boolA]
  obtain ⟨o1, o2, o3⟩ := hok _ _ a2
  refine KW_ex (s36 hv ⟨by simp, by simp⟩ trivial (c1.hx _) o1 o2 o3) fun H2 hP2 => ?_
  obtain ⟨lv2, c2, k2⟩ := hP2
  have l1 := Heap.get_lt c1.1
  obtain ⟨x2, y2⟩ := tailC c1 l1 k2 (by simp)
  rw [b1, ← hx_nil H2]
  unfold ansV itemR
  simp only [↓vp, vq0, vq1, vq2, vq3, vr0, vr1, vr2, vr3, vr4, vr5, vr6, vr7, vr8, vr9, vr10, vr11, vr12, vr13, vr14, vr15, vr16, vr17, vr18, vr19, vr20, vr21, vr22, vr23, vr24, vr25, vr26, vr27, vr28, vr29, vr30, vr31, vr32, vr33, vr34, opS, fpS, okP, pack, nAl, allocA, shId, leaves, fillA, fillR, splice, Nat.reduceLT, Nat.reduceEqDiff, Nat.reduceLeDiff, Nat.reduceAdd, Nat.reduceSub, Nat.reduceMul, Int.reduceBEq, Int.reduceBNe, Int.reduceLT, Int.reduceLE, Int.reduceEq, reduceIte, reduceCtorEq, da, int, boolA]
  obtain ⟨o1, o2, o3⟩ := hok _ _ b2
  refine KW_ex (s36 hv ⟨by simp, by simp⟩ trivial (c2.hx _) o1 o2 o3) fun H3 hP3 => ?_
  obtain ⟨lv3, c3, k3⟩ := hP3
  have l2 := Heap.get_lt c2.1
  obtain ⟨x3, y3⟩ := keep_boxx l2 x2 y2 k3
  obtain ⟨xx3, yy3⟩ := tailC c2 l2 k3 (by simp)
  rw [d1, ← hx_nil H3]
  unfold ansV itemR itemN nilI
  simp only [↓vp, vq0, vq1, vq2, vq3, vr0, vr1, vr2, vr3, vr4, vr5, vr6, vr7, vr8, vr9, vr10, vr11, vr12, vr13, vr14, vr15, vr16, vr17, vr18, vr19, vr20, vr21, vr22, vr23, vr24, vr25, vr26, vr27, vr28, vr29, vr30, vr31, vr32, vr33, vr34, opS, fpS, okP, pack, nAl, allocA, shId, leaves, fillA, fillR, splice, Nat.reduceLT, Nat.reduceEqDiff, Nat.reduceLeDiff, Nat.reduceAdd, Nat.reduceSub, Nat.reduceMul, Int.reduceBEq, Int.reduceBNe, Int.reduceLT, Int.reduceLE, Int.reduceEq, reduceIte, reduceCtorEq, da, int, boolA]
  refine KW_ex (s35 hv ⟨by simp, by simp⟩ trivial (c3.hx _)) fun H4 hP4 => ?_
  obtain ⟨lv4, c4, k4⟩ := hP4
  have l3 := Heap.get_lt c3.1
  obtain ⟨x4, y4⟩ := keep_boxx l3 x3 y3 k4
  obtain ⟨xx4, yy4⟩ := keep_boxx l3 xx3 yy3 k4
  rw [e1, ← hx_nil H4]
  unfold ansV itemR
  simp only [↓vp, vq0, vq1, vq2, vq3, vr0, vr1, vr2, vr3, vr4, vr5, vr6, vr7, vr8, vr9, vr10, vr11, vr12, vr13, vr14, vr15, vr16, vr17, vr18, vr19, vr20, vr21, vr22, vr23, vr24, vr25, vr26, vr27, vr28, vr29, vr30, vr31, vr32, vr33, vr34, opS, fpS, okP, pack, nAl, allocA, shId, leaves, fillA, fillR, splice, Nat.reduceLT, Nat.reduceEqDiff, Nat.reduceLeDiff, Nat.reduceAdd, Nat.reduceSub, Nat.reduceMul, Int.reduceBEq, Int.reduceBNe, Int.reduceLT, Int.reduceLE, Int.reduceEq, reduceIte, reduceCtorEq, da, int, boolA, k17, rsz, x39 (b := 98)]
  have l4 := Heap.get_lt c4.1
  have lx := Heap.get_lt x4
  have ly := Heap.get_lt xx4
  have hl34 : H3.next ≤ H4.next := by have := k4.le; rw [hx_next] at this; omega
  have hl23 : H2.next ≤ H3.next := by have := k3.le; rw [hx_next] at this; omega
  have hl12 : H1.next ≤ H2.next := by have := k2.le; rw [hx_next] at this; omega
  refine range_count (g := True) (nd0 := nodeM l) (its := three) (at0 := 1) (key := [98]) hv (fun _ => trivial) ⟨by decide, rfl⟩ (.inl ⟨a1, a2⟩) (fun i ws hg => .inl ?_) hok (ns := 16) (nid := H4.next + 1) (by decide) (by simp only [↓vp, vq0, vq1, vq2, vq3, vr0, vr1, vr2, vr3, vr4, vr5, vr6, vr7, vr8, vr9, vr10, vr11, vr12, vr13, vr14, vr15, vr16, vr17, vr18, vr19, vr20, vr21, vr22, vr23, vr24, vr25, vr26, vr27, vr28, vr29, vr30, vr31, vr32, vr33, vr34, opS, fpS, okP, pack, nAl, allocA, shId, leaves, fillA, fillR, splice, Nat.reduceLT, Nat.reduceEqDiff, Nat.reduceLeDiff, Nat.reduceAdd, Nat.reduceSub, Nat.reduceMul, Int.reduceBEq, Int.reduceBNe, Int.reduceLT, Int.reduceLE, Int.reduceEq, reduceIte, reduceCtorEq]) (by decide) (by simp only [↓vp, vq0, vq1, vq2, vq3, vr0, vr1, vr2, vr3, vr4, vr5, vr6, vr7, vr8, vr9, vr10, vr11, vr12, vr13, vr14, vr15, vr16, vr17, vr18, vr19, vr20, vr21, vr22, vr23, vr24, vr25, vr26, vr27, vr28, vr29, vr30, vr31, vr32, vr33, vr34, opS, fpS, okP, pack, nAl, allocA, shId, leaves, fillA, fillR, splice, Nat.reduceLT, Nat.reduceEqDiff, Nat.reduceLeDiff, Nat.reduceAdd, Nat.reduceSub, Nat.reduceMul, Int.reduceBEq, Int.reduceBNe, Int.reduceLT, Int.reduceLE, Int.reduceEq, reduceIte, reduceCtorEq]) (fun K f' m q1 q2 q3 => ?_) (H := hx H4 [.box false (itemC dItem), .box false [.sc (.int .i64 0)], .row true 1 [[.sc (.int .u8 98)]]]) (by rw [hx_get]; rfl) (by decide) [H1.next, H2.next, H4.next] (fun j hj => ?_) (fun H5 m hm1 hm2 hn5 hZ5 => ?_)
  · have hne := PosI_ne hg.1
    have := mv_good hg 1 (.inl rfl)
    unfold stepN
    rw [if_neg hne]
    exact this
  · unfold c28B0
    have w1 : IntKind.i64.wrap ((m : Int) + 1) = ((m + 1 : Nat) : Int) := by rw [wrap_i64 (by omega)]; omega
    have o1 := get_old q2
    have lK := Heap.get_lt q2
    have p1 := fun L b => hx_set_old K L b (H4.next + 1) lK
    simp only [↓vp, vq0, vq1, vq2, vq3, vr0, vr1, vr2, vr3, vr4, vr5, vr6, vr7, vr8, vr9, vr10, vr11, vr12, vr13, vr14, vr15, vr16, vr17, vr18, vr19, vr20, vr21, vr22, vr23, vr24, vr25, vr26, vr27, vr28, vr29, vr30, vr31, vr32, vr33, vr34, opS, fpS, okP, pack, nAl, allocA, shId, leaves, fillA, fillR, splice, Nat.reduceLT, Nat.reduceEqDiff, Nat.reduceLeDiff, Nat.reduceAdd, Nat.reduceSub, Nat.reduceMul, Int.reduceBEq, Int.reduceBNe, Int.reduceLT, Int.reduceLE, Int.reduceEq, reduceIte, reduceCtorEq, da, int, boolA, q1, o1, w1, p1]
    rw [hx_nil]
  · simp only [List.mem_cons, List.mem_singleton, List.not_mem_nil, or_false] at hj
    rw [hx_next]
    rcases hj with rfl | rfl | rfl <;> constructor <;> simp <;> omega
  · have m2 : m = 2 := hm2 trivial
    subst m2
    have zx : H5.get H1.next = some (.box false (itemC cItem)) := by rw [hZ5 _ (by simp), hx_get_old _ _ _ lx]; exact x4
    have zy : H5.get H2.next = some (.box false (itemC aItem)) := by rw [hZ5 _ (by simp), hx_get_old _ _ _ ly]; exact xx4
    have zz : H5.get H4.next = some (.box false (itemC dItem)) := by rw [hZ5 _ (by simp), hx_get0]; rfl
    have gx := get_old zx
    have gy := get_old zy
    have gz := get_old zz
    have gn := get_old hn5
    have rc : ∀ H, rowsOf H (encB cItem.key) = some [[.sc (.int .u8 99)]] := fun _ => rfl
    have ra : ∀ H, rowsOf H (encB aItem.key) = some [[.sc (.int .u8 97)]] := fun _ => rfl
    have rd : ∀ H, rowsOf H (encB dItem.key) = some [[.sc (.int .u8 100)]] := fun _ => rfl
    have bR : ∀ b, bytesOfRows [[.sc (.int .u8 b)]] = some [b] := fun _ => rfl
    have sE : ∀ (b : Int) (u : UInt8), UInt8.ofNat b.toNat = u → binA .eql 9 (.sc (.string (strOfNums [b]))) (.sc (.string ⟨#[u]⟩)) = some (.sc (.bool true)) := fun b u h => by
      have h : strOfNums [b] = ⟨#[u]⟩ := by simp [strOfNums, h]
      rw [h]
      simp [binA, binOp, Op.stringOp, pureRun, ofScalar, isSc, pure]
    have s1 := sE 99 99 rfl
    have s2 := sE 97 97 rfl
    have s3 := sE 100 100 rfl
    rw [← hx_nil H5]
    simp only [↓vp, vq0, vq1, vq2, vq3, vr0, vr1, vr2, vr3, vr4, vr5, vr6, vr7, vr8, vr9, vr10, vr11, vr12, vr13, vr14, vr15, vr16, vr17, vr18, vr19, vr20, vr21, vr22, vr23, vr24, vr25, vr26, vr27, vr28, vr29, vr30, vr31, vr32, vr33, vr34, opS, fpS, okP, pack, nAl, allocA, shId, leaves, fillA, fillR, splice, Nat.reduceLT, Nat.reduceEqDiff, Nat.reduceLeDiff, Nat.reduceAdd, Nat.reduceSub, Nat.reduceMul, Int.reduceBEq, Int.reduceBNe, Int.reduceLT, Int.reduceLE, Int.reduceEq, reduceIte, reduceCtorEq, da, int, boolA, RetP_go, resT, resC, resN, retV1, retV2, retV3, retV0, frzFZ, takeM, Option.some.injEq, gx, gy, gz, gn, rc, ra, rd, bR, s1, s2, s3]
    rfl
theorem alive28 : Alive 28 := fun K L Q => by
  obtain ⟨l, root, hM, hl, ht, h0, hits⟩ := three_tree
  exact KW_of (s28a hM hl ht h0 hits _)
end Go.VI

set_option linter.unusedVariables false
set_option linter.unusedSimpArgs false
namespace Go.VI
open Go.Proofs
variable (W : World)
theorem rdOp : RD Try.prog W 80 fun xs => ∃ o : OpM, xs = opK o ∧ okB o.key :=
  (rd_struct (Es := [_, _]) Try.underlying80 (by kernel_rfl) ⟨rdN W, rdB W, trivial⟩).mono fun xs h => by
    obtain ⟨_, _, rfl, ⟨k, rfl, _⟩, _, _, rfl, ⟨b, rfl, hb⟩, rfl⟩ := h
    exact ⟨⟨k, b⟩, rfl, hb⟩
theorem rdO : RD Try.prog W 73 fun xs => ∃ l : List OpM, xs = [encO l] ∧ okO l :=
  (rd_slice (sz := 2) (B := 32) Try.underlying73 (by kernel_rfl) (by decide) (by kernel_rfl) (rdOp W)).mono fun xs ⟨rows, h1, h2, h3⟩ => by
    obtain ⟨l, rfl, hl⟩ := rows_map (g := opK) (p := fun o => okB o.key) fun r hr => (h2 r hr).1
    refine ⟨l, h1, ?_, hl⟩
    simp only [List.length_map, reachBytes] at h3
    unfold MX
    omega
end Go.VI

set_option linter.unusedVariables false
set_option linter.unusedSimpArgs false
set_option maxRecDepth 100000
namespace Go.VI
attribute [local congr] AW_congr OW_congr DW_congr NW_congr VW_congr GW_congr PW_congr KW_congr ite_congr' GV_congr CV_congr
def turnR (a b : Int) : List AV := [int a, int b]
def turns : Blk := .row false 2 [turnR 3 4, turnR 4 3]
theorem ia2_0 (H : Heap) (id : Nat) : iaddrA H (some 2) 1 (.ptr id 0 0) 0 = some (.ptr id 0 0) := rfl
theorem okB_nil : okB [] := ⟨by decide, rfl⟩
end Go.VI

set_option linter.unusedVariables false
set_option linter.unusedSimpArgs false
set_option maxRecDepth 100000
namespace Go.VI
attribute [local congr] AW_congr OW_congr DW_congr NW_congr VW_congr GW_congr PW_congr KW_congr ite_congr' GV_congr CV_congr
def byC (a b : Int) : List AV := [int a, int b]
def srcXF (l : List NamedM) (a b : Int) : AV := .fn (.func 38) [] [.pim [byC a b] 0 0, .pim [[encL l]] 0 0]
theorem ip2_1 (H : Heap) (rows : List (List AV)) : iaddrA H (some 2) 1 (.pim rows 0 0) 1 = some (.pim rows 0 1) := rfl
theorem cp_one (H : Heap) (cs : List AV) (off n : Nat) : cellsAt H (.pim [cs] 0 off) n = if off + n ≤ cs.length then some ((cs.drop off).take n) else none := rfl
theorem s38 {l : List NamedM} (hl : okL l) (ht : tinyL l) (a b ref : Int) (H : Heap) : callL ft (srcXF l a b) [int ref] H = some (.tup [.agg (nodeC (ndX (nodeM l) b ref).1), int (ndX (nodeM l) b ref).2], H) := by
  refine call_p (caps := [.pim [byC a b] 0 0, .pim [[encL l]] 0 0]) (as' := [int ref, .pim [byC a b] 0 0, .pim [[encL l]] 0 0]) rfl rfl (by simp) ?_
  have q45 := fun (K : Heap) (L : List Blk) (Q : AV → Heap → Prop) => k45 hl ht (ref := ref) (K := K) (L := L) (Q := Q)
  unfold c38 r38 ndX
  by_cases hb : ref = b
  · have hb' : (ref == b) = true := by simpa using hb
    rw [if_pos hb]
    simp only [↓vp, vq0, vq1, vq2, vq3, vr0, vr1, vr2, vr3, vr4, vr5, vr6, vr7, vr8, vr9, vr10, vr11, vr12, vr13, vr14, vr15, vr16, vr17, vr18, vr19, vr20, vr21, vr22, vr23, vr24, vr25, vr26, vr27, vr28, vr29, vr30, vr31, vr32, vr33, vr34, opS, fpS, okP, pack, nAl, allocA, shId, leaves, fillA, fillR, splice, Nat.reduceLT, Nat.reduceEqDiff, Nat.reduceLeDiff, Nat.reduceAdd, Nat.reduceSub, Nat.reduceMul, Int.reduceBEq, Int.reduceBNe, Int.reduceLT, Int.reduceLE, Int.reduceEq, reduceIte, reduceCtorEq, da, int, boolA, RetP_go, resT, resC, resN, retV1, retV2, retV3, retV0, frzFZ, takeM, Option.some.injEq, ip2_1, cp_one, byC, hb, beq_self_eq_true]
    rfl
  · have hb' : (ref == b) = false := by simpa using hb
    rw [if_neg hb]
    simp only [int] at q45
    simp only [↓vp, vq0, vq1, vq2, vq3, vr0, vr1, vr2, vr3, vr4, vr5, vr6, vr7, vr8, vr9, vr10, vr11, vr12, vr13, vr14, vr15, vr16, vr17, vr18, vr19, vr20, vr21, vr22, vr23, vr24, vr25, vr26, vr27, vr28, vr29, vr30, vr31, vr32, vr33, vr34, opS, fpS, okP, pack, nAl, allocA, shId, leaves, fillA, fillR, splice, Nat.reduceLT, Nat.reduceEqDiff, Nat.reduceLeDiff, Nat.reduceAdd, Nat.reduceSub, Nat.reduceMul, Int.reduceBEq, Int.reduceBNe, Int.reduceLT, Int.reduceLE, Int.reduceEq, reduceIte, reduceCtorEq, da, int, boolA, RetP_go, resT, resC, resN, retV1, retV2, retV3, retV0, frzFZ, takeM, Option.some.injEq, ip2_1, cp_one, byC, hb', k17, q45]
theorem okN_no : okN noNode := ⟨⟨by decide, fun _ h => by simp [noNode] at h⟩, ⟨by decide, fun _ h => by simp [noNode] at h⟩⟩
theorem ndX_ok {nd : Int → NodeM × Int} (h : ∀ ref, okN (nd ref).1) (b ref : Int) : okN (ndX nd b ref).1 := by
  unfold ndX
  split
  · exact okN_no
  · exact h ref
theorem ndX_tiny {nd : Int → NodeM × Int} (h : ∀ ref, (nd ref).1.items.length ≤ 1000 ∧ (nd ref).1.kids.length ≤ 1000) (b ref : Int) : (ndX nd b ref).1.items.length ≤ 1000 ∧ (ndX nd b ref).1.kids.length ≤ 1000 := by
  unfold ndX
  split
  · exact ⟨by decide, by decide⟩
  · exact h ref
theorem srcP_X {l : List NamedM} (hl : okL l) (ht : tinyL l) (a b : Int) : SrcP (srcXF l a b) (ndX (nodeM l) b) where
  call := fun ref K L Q => KW_of (s38 hl ht a b ref _)
  ok := ndX_ok (ok_node hl) b
  tiny := ndX_tiny (tiny_node ht) b
  nn := rfl
  fz := fun n H => rfl
  one := rfl
  cs := rfl
theorem srcV_P {sv : AV} {nd : Int → NodeM × Int} (h : SrcP sv nd) : SrcV [] nd sv (fun _ => True) where
  one := h.one
  cs := h.cs
  nn := h.nn
  fz := fun K _ => ⟨sv, K, h, trivial, ⟨rfl, fun _ _ => rfl, fun _ h => by simp at h⟩, fun n L => h.fz n _⟩
  bx := fun _ _ _ h => by simp at h
  st := fun _ _ _ _ => trivial
  ok := h.ok
  tiny := h.tiny
/-- A box, frozen. -/
theorem frz_bx {K : Heap} {id : Nat} {fz : Bool} {cs : List AV} (h : K.get id = some (.box fz cs)) (hc : ∀ n H, frz.frzL (n + 4) H cs = some (cs, H)) :
    ∃ K', (∀ n L, frz (n + 5) (hx K L) (.ptr id 0 0) = some (.pim [cs] 0 0, hx K' L)) ∧ K'.next = K.next ∧ K'.get id = some (.box true cs) ∧ ∀ j, j ≠ id → K'.get j = K.get j := by
  have hl := Heap.get_lt h
  cases fz with
  | true => exact ⟨K, fun n L => by rw [frz_ptr, get_old h L]; rfl, rfl, h, fun _ _ => rfl⟩
  | false =>
    refine ⟨K.set id (.box true cs), fun n L => ?_, by simp, Heap.get_set_self _ hl, fun j hj => Heap.get_set_ne _ hj⟩
    rw [frz_ptr, get_old h L]
    simp only [if_true, hc, Option.bind_some, get_old h L, hx_set_old _ _ _ _ hl]
def srcXP (b4 b3 : Nat) : AV := .fn (.func 38) [] [.ptr b4 0 0, .ptr b3 0 0]
def PX (l : List NamedM) (a b : Int) (b4 b3 : Nat) (K : Heap) : Prop := (∃ fz, K.get b4 = some (.box fz (byC a b))) ∧ ∃ fz, K.get b3 = some (.box fz [encL l])
theorem srcX_fz {l : List NamedM} {a b : Int} {b4 b3 : Nat} (hne : b4 ≠ b3) {K : Heap} (hP : PX l a b b4 b3 K) : ∃ K', PX l a b b4 b3 K' ∧ FrX [b4, b3] K K' ∧ ∀ n L, frz (n + 8) (hx K L) (srcXP b4 b3) = some (srcXF l a b, hx K' L) := by
  obtain ⟨⟨f4, g4⟩, ⟨f3, g3⟩⟩ := hP
  obtain ⟨K1, z1, n1, p1, o1⟩ := frz_bx g4 (fun _ _ => rfl)
  obtain ⟨K2, z2, n2, p2, o2⟩ := frz_bx (K := K1) (by rw [o1 _ (Ne.symm hne)]; exact g3) (fun _ _ => rfl)
  have q4 : K2.get b4 = some (.box true (byC a b)) := by rw [o2 _ hne]; exact p1
  refine ⟨K2, ⟨⟨_, q4⟩, _, p2⟩, ⟨by omega, fun id hid => ?_, fun id hid fz c hg => ?_⟩, fun n L => ?_⟩
  · simp only [List.mem_cons, List.not_mem_nil, or_false, not_or] at hid
    rw [o2 _ hid.2, o1 _ hid.1]
  · simp only [List.mem_cons, List.not_mem_nil, or_false] at hid
    rcases hid with rfl | rfl
    · rw [g4] at hg; cases hg; exact ⟨_, q4⟩
    · rw [g3] at hg; cases hg; exact ⟨_, p2⟩
  · unfold srcXP srcXF
    rw [frz_fn, frzL_nil]
    simp only [Option.bind_some, frzL_cons, z1, z2, frzL_nil]
theorem srcV_X {l : List NamedM} (hl : okL l) (ht : tinyL l) (a b : Int) {b4 b3 : Nat} (hne : b4 ≠ b3) : SrcV [b4, b3] (ndX (nodeM l) b) (srcXP b4 b3) (PX l a b b4 b3) where
  one := rfl
  cs := rfl
  nn := rfl
  fz := fun K hP => by
    obtain ⟨K', h1, h2, h3⟩ := srcX_fz hne hP
    exact ⟨_, K', srcP_X hl ht a b, h1, h2, h3⟩
  bx := fun K hP id hid => by
    obtain ⟨⟨f4, g4⟩, ⟨f3, g3⟩⟩ := hP
    simp only [List.mem_cons, List.not_mem_nil, or_false] at hid
    rcases hid with rfl | rfl
    · exact ⟨_, _, g4⟩
    · exact ⟨_, _, g3⟩
  st := fun K K' hP h => by
    obtain ⟨⟨f4, g4⟩, ⟨f3, g3⟩⟩ := hP
    exact ⟨h b4 (by simp) _ _ g4, h b3 (by simp) _ _ g3⟩
  ok := ndX_ok (ok_node hl) b
  tiny := ndX_tiny (tiny_node ht) b
end Go.VI

set_option linter.unusedVariables false
set_option linter.unusedSimpArgs false
set_option maxRecDepth 100000
namespace Go.VI
attribute [local congr] AW_congr OW_congr DW_congr NW_congr VW_congr GW_congr PW_congr KW_congr ite_congr' GV_congr CV_congr
def cntR (l : List NamedM) (rs : List Int) : Nat := (rs.map fun r => (nodeM l r).1.items.length).sum
def cntA (l : List NamedM) : Nat := (l.map fun x => x.n.items.length).sum
theorem cntR_nil : ∀ (rs : List Int), cntR [] rs = 0
  | [] => rfl
  | r :: rs => by
    have := cntR_nil rs
    simp only [cntR, List.map_cons, List.sum_cons] at this ⊢
    rw [this]
    rfl
theorem nodeM_cons (x : NamedM) (l : List NamedM) (r : Int) : (nodeM (x :: l) r).1 = if x.ref = r then x.n else (nodeM l r).1 := by
  unfold nodeM
  rw [List.find?_cons]
  by_cases h : x.ref = r
  · simp [h]
  · have : (x.ref == r) = false := by simpa using h
    simp [this, h]
theorem cntR_cons (x : NamedM) (l : List NamedM) : ∀ (rs : List Int), rs.Nodup → cntR (x :: l) rs ≤ x.n.items.length + cntR l rs ∧ (x.ref ∉ rs → cntR (x :: l) rs = cntR l rs)
  | [], _ => ⟨Nat.zero_le _, fun _ => rfl⟩
  | r :: rs, hn => by
    obtain ⟨h1, h2⟩ := List.nodup_cons.1 hn
    obtain ⟨a, b⟩ := cntR_cons x l rs h2
    simp only [cntR, List.map_cons, List.sum_cons, nodeM_cons] at a b ⊢
    by_cases hr : x.ref = r
    · subst hr
      have hb := b h1
      refine ⟨?_, fun h => absurd List.mem_cons_self h⟩
      rw [if_pos rfl]
      omega
    · rw [if_neg hr]
      refine ⟨by omega, fun h => ?_⟩
      rw [b (fun hh => h (List.mem_cons_of_mem _ hh))]
theorem cnt_le : ∀ (l : List NamedM) (rs : List Int), rs.Nodup → cntR l rs ≤ cntA l
  | [], rs, _ => by rw [cntR_nil]; exact Nat.zero_le _
  | x :: l, rs, h => by
    have h1 := (cntR_cons x l rs h).1
    have h2 := cnt_le l rs h
    simp only [cntA, List.map_cons, List.sum_cons] at h2 ⊢
    omega
theorem cntN_node {l : List NamedM} {p : PlaceM} {w : WM} (h : w.items.length ≤ cntR l w.refs) : (nodeW l p w).2.2.items.length ≤ cntR l (nodeW l p w).2.2.refs := by
  unfold nodeW
  split
  · exact h
  · split
    · exact h
    · split
      · exact h
      · simp only [cntR, List.map_append, List.sum_append, List.map_cons, List.map_nil, List.sum_cons, List.sum_nil, Nat.add_zero] at h ⊢
        split
        · rw [List.length_append]; omega
        · omega
theorem cntN_visit {l : List NamedM} : ∀ (d : Nat) (p : PlaceM) (w : WM), w.items.length ≤ cntR l w.refs → (visitM l d p w).2.items.length ≤ cntR l (visitM l d p w).2.refs
  | 0, _, w, h => h
  | d + 1, p, w, h => by
    rw [visitM]
    split
    · exact cntN_node h
    · exact goM_inv (P := fun w => w.items.length ≤ cntR l w.refs) (fun p w h => cntN_visit d p w h) p _ _ _ (cntN_node h)
theorem cntA_sum : ∀ (l : List NamedM) (s : Int), 0 ≤ s → s + l.length * 281474976710656 < 9223372036854775807 → (∀ x ∈ l, x.n.items.length < MX ∧ x.n.kids.length < MX) → s + cntA l ≤ sumM s l
  | [], s, _, _, _ => by simp [cntA, sumM]
  | y :: l, s, hs, hb, h => by
    obtain ⟨h1, h2⟩ := h y List.mem_cons_self
    unfold MX at h1 h2
    simp only [List.length_cons] at hb
    have e1 : IntKind.i64.wrap ((y.n.items.length : Int) + y.n.kids.length) = (y.n.items.length : Int) + y.n.kids.length := wrap_i64 (by omega)
    have e2 : IntKind.i64.wrap (s + ((y.n.items.length : Int) + y.n.kids.length)) = s + ((y.n.items.length : Int) + y.n.kids.length) := wrap_i64 (by omega)
    have := cntA_sum l (s + ((y.n.items.length : Int) + y.n.kids.length)) (by omega) (by omega) (fun x hx => h x (List.mem_cons_of_mem _ hx))
    rw [sumM, e1, e2]
    simp only [cntA, List.map_cons, List.sum_cons] at this ⊢
    omega
theorem its_200 {l : List NamedM} (hl : okL l) (h : fewM l = true) (root : Int) : (allM l root).1.items.length ≤ 200 := by
  have ht := few_tiny hl h
  have h1 : (allM l root).1.items.length ≤ cntR l (allM l root).1.refs := by
    unfold allM
    split
    · exact Nat.zero_le _
    · exact cntN_visit 12 _ _ (Nat.zero_le _)
  have h2 := cnt_le l _ (okW_all ht root).nd
  simp only [fewM, Bool.and_eq_true, decide_eq_true_eq] at h
  have h3 := cntA_sum l 0 (Int.le_refl _) (by omega) (fun x hx => ⟨(hl.h x hx).i.n, (hl.h x hx).k.n⟩)
  omega
/-- Another cursor's calls leave a cursor as it was. -/
theorem cur_keep {X : List Nat} {H H' : Heap} {cid c2 : Nat} {sv lv : AV} {root : Int} {ws : List StepM} (hc : Cur H cid sv root lv ws) (hK : KeepC c2 X H H') (ho : ∀ j, OwnC H cid j → ¬ OwnC H c2 j ∧ j ∉ X) : Cur H' cid sv root lv ws := by
  have h1 := ho cid (.inl rfl)
  refine ⟨hK.old _ _ hc.1 h1.1 h1.2, ?_⟩
  rcases hc.2 with h | ⟨id, rs, e, h2, h3⟩
  · exact .inl h
  · have h4 := ho id (.inr ⟨sv, int root, 0, ws.length, by rw [hc.1, e]⟩)
    exact .inr ⟨id, rs, e, hK.old _ _ h2 h4.1 h4.2, h3⟩
theorem px_st {l : List NamedM} {a b : Int} {b4 b3 cid : Nat} {H H' : Heap} (hl : okL l) (ht : tinyL l) (hne : b4 ≠ b3) (hP : PX l a b b4 b3 H) (hK : KeepC cid [b4, b3] H H') : PX l a b b4 b3 H' :=
  (srcV_X hl ht a b hne).st _ _ hP hK.bx
theorem px_hx {l : List NamedM} {a b : Int} {b4 b3 : Nat} {H : Heap} (hP : PX l a b b4 b3 H) (L : List Blk) : PX l a b b4 b3 (hx H L) := by
  obtain ⟨⟨f4, g4⟩, ⟨f3, g3⟩⟩ := hP
  exact ⟨⟨f4, get_old g4 L⟩, f3, get_old g3 L⟩
theorem px_lt {l : List NamedM} {a b : Int} {b4 b3 : Nat} {H : Heap} (hP : PX l a b b4 b3 H) : ∀ x ∈ [b4, b3], x < H.next := by
  obtain ⟨⟨f4, g4⟩, ⟨f3, g3⟩⟩ := hP
  intro x hx
  simp only [List.mem_cons, List.not_mem_nil, or_false] at hx
  rcases hx with rfl | rfl
  · exact Heap.get_lt g4
  · exact Heap.get_lt g3
theorem px_row {l : List NamedM} {a b : Int} {b4 b3 : Nat} {H : Heap} (hP : PX l a b b4 b3 H) {j : Nat} {fz : Bool} {sz : Nat} {rs : List (List AV)} (hj : H.get j = some (.row fz sz rs)) : j ∉ [b4, b3] := by
  obtain ⟨⟨f4, g4⟩, ⟨f3, g3⟩⟩ := hP
  intro hx
  simp only [List.mem_cons, List.not_mem_nil, or_false] at hx
  rcases hx with rfl | rfl
  · rw [hj] at g4; cases g4
  · rw [hj] at g3; cases g3
theorem own_notX {l : List NamedM} {a b : Int} {b4 b3 cid : Nat} {H : Heap} {sv lv : AV} {root : Int} {ws : List StepM} (hP : PX l a b b4 b3 H) (hX : cid ∉ [b4, b3]) (hc : Cur H cid sv root lv ws) {j : Nat} (hj : OwnC H cid j) : j ∉ [b4, b3] := by
  rcases hj with rfl | ⟨s, r, o, len, h⟩
  · exact hX
  · rcases hc.2 with ⟨e, _⟩ | ⟨id, rs, e, h2, h3⟩
    · rw [hc.1, e] at h; cases h
    · rw [hc.1, e] at h
      cases h
      exact px_row hP h2
theorem l11 {l : List NamedM} (hl : okL l) (ht : tinyL l) {a b : Int} (h0 : (allM l a).2 = 0) (cid b4 b3 : Nat) (hne : b4 ≠ b3) (hX : cid ∉ [b4, b3]) (sc : List OpM) (hs : okO sc) {Q : AExit → Env → Heap → Prop}
   (hex : ∀ f' K, PX l a b b4 b3 K → f' 4 = .ptr b4 0 0 → f' 9 = srcXP b4 b3 → Q (.exit 0) (mkE 114 f') (hx K [])) :
   ∀ (d i : Nat) (at_ : Int) (ws : List StepM) (lv : AV) (K : Heap) (f : Nat → AV), i + d = sc.length → Cur K cid (srcXP b4 b3) a lv ws → Rel (nodeM l) a (allM l a).1.items ws at_ → PX l a b b4 b3 K →
    f 4 = .ptr b4 0 0 → f 9 = srcXP b4 b3 → f 10 = .ptr cid 0 0 → f 45 = encO sc → f 46 = int sc.length → f 47 = int i →
    AW ft (.loop c11L0) (mkE 114 f) (hx K []) Q := by
  have hv := srcV_X hl ht a b hne
  have hv0 := srcV_F hl ht
  intro d
  have hi := hs.n
  unfold MX at hi
  induction d with
  | zero =>
    intro i at_ ws lv K f hd hc hr hP h4 h9 h10 h45 h46 h47
    have g : ((i : Int) < sc.length) = False := eq_false (by omega)
    rw [AW_loop]
    unfold c11L0
    simp only [↓vp, vq0, vq1, vq2, vq3, vr0, vr1, vr2, vr3, vr4, vr5, vr6, vr7, vr8, vr9, vr10, vr11, vr12, vr13, vr14, vr15, vr16, vr17, vr18, vr19, vr20, vr21, vr22, vr23, vr24, vr25, vr26, vr27, vr28, vr29, vr30, vr31, vr32, vr33, vr34, opS, fpS, okP, pack, nAl, allocA, shId, leaves, fillA, fillR, splice, Nat.reduceLT, Nat.reduceEqDiff, Nat.reduceLeDiff, Nat.reduceAdd, Nat.reduceSub, Nat.reduceMul, Int.reduceBEq, Int.reduceBNe, Int.reduceLT, Int.reduceLE, Int.reduceEq, reduceIte, reduceCtorEq, da, int, boolA, h46, h47, g]
    refine hex _ _ hP ?_ ?_ <;> simp only [↓vp, vq0, vq1, vq2, vq3, vr0, vr1, vr2, vr3, vr4, vr5, vr6, vr7, vr8, vr9, vr10, vr11, vr12, vr13, vr14, vr15, vr16, vr17, vr18, vr19, vr20, vr21, vr22, vr23, vr24, vr25, vr26, vr27, vr28, vr29, vr30, vr31, vr32, vr33, vr34, opS, fpS, okP, pack, nAl, allocA, shId, leaves, fillA, fillR, splice, Nat.reduceLT, Nat.reduceEqDiff, Nat.reduceLeDiff, Nat.reduceAdd, Nat.reduceSub, Nat.reduceMul, Int.reduceBEq, Int.reduceBNe, Int.reduceLT, Int.reduceLE, Int.reduceEq, reduceIte, reduceCtorEq, da, int, boolA, h4, h9]
  | succ d ih =>
    intro i at_ ws lv K f hd hc hr hP h4 h9 h10 h45 h46 h47
    have g : ((i : Int) < sc.length) = True := eq_true (by omega)
    have gi : i < sc.length := by omega
    have w1 := wrap_succ (show i < 9223372036854775807 by omega)
    have hko := hs.k _ (List.getElem_mem gi)
    rw [AW_loop]
    unfold c11L0
    generalize ho : sc[i] = o at hko
    by_cases c1 : o.kind < 0
    · simp only [↓vp, vq0, vq1, vq2, vq3, vr0, vr1, vr2, vr3, vr4, vr5, vr6, vr7, vr8, vr9, vr10, vr11, vr12, vr13, vr14, vr15, vr16, vr17, vr18, vr19, vr20, vr21, vr22, vr23, vr24, vr25, vr26, vr27, vr28, vr29, vr30, vr31, vr32, vr33, vr34, opS, fpS, okP, pack, nAl, allocA, shId, leaves, fillA, fillR, splice, Nat.reduceLT, Nat.reduceEqDiff, Nat.reduceLeDiff, Nat.reduceAdd, Nat.reduceSub, Nat.reduceMul, Int.reduceBEq, Int.reduceBNe, Int.reduceLT, Int.reduceLE, Int.reduceEq, reduceIte, reduceCtorEq, da, int, boolA, h4, h9, h10, h45, h46, h47, g, atO gi, cO gi, ho, o_all, o_0, o_one, len_opK, c1, w1]
      rw [← hx_nil (hx _ _)]
      refine ih (i + 1) at_ ws lv _ _ (by omega) (hc.hx _) hr (px_hx hP _) ?_ ?_ ?_ ?_ ?_ ?_ <;> simp only [↓vp, vq0, vq1, vq2, vq3, vr0, vr1, vr2, vr3, vr4, vr5, vr6, vr7, vr8, vr9, vr10, vr11, vr12, vr13, vr14, vr15, vr16, vr17, vr18, vr19, vr20, vr21, vr22, vr23, vr24, vr25, vr26, vr27, vr28, vr29, vr30, vr31, vr32, vr33, vr34, opS, fpS, okP, pack, nAl, allocA, shId, leaves, fillA, fillR, splice, Nat.reduceLT, Nat.reduceEqDiff, Nat.reduceLeDiff, Nat.reduceAdd, Nat.reduceSub, Nat.reduceMul, Int.reduceBEq, Int.reduceBNe, Int.reduceLT, Int.reduceLE, Int.reduceEq, reduceIte, reduceCtorEq, da, int, boolA, h4, h9, h10, h45, h46]
    · by_cases c2 : 4 < o.kind
      · simp only [↓vp, vq0, vq1, vq2, vq3, vr0, vr1, vr2, vr3, vr4, vr5, vr6, vr7, vr8, vr9, vr10, vr11, vr12, vr13, vr14, vr15, vr16, vr17, vr18, vr19, vr20, vr21, vr22, vr23, vr24, vr25, vr26, vr27, vr28, vr29, vr30, vr31, vr32, vr33, vr34, opS, fpS, okP, pack, nAl, allocA, shId, leaves, fillA, fillR, splice, Nat.reduceLT, Nat.reduceEqDiff, Nat.reduceLeDiff, Nat.reduceAdd, Nat.reduceSub, Nat.reduceMul, Int.reduceBEq, Int.reduceBNe, Int.reduceLT, Int.reduceLE, Int.reduceEq, reduceIte, reduceCtorEq, da, int, boolA, h4, h9, h10, h45, h46, h47, g, atO gi, cO gi, ho, o_all, o_0, o_one, len_opK, c1, c2, w1]
        rw [← hx_nil (hx _ _)]
        refine ih (i + 1) at_ ws lv _ _ (by omega) (hc.hx _) hr (px_hx hP _) ?_ ?_ ?_ ?_ ?_ ?_ <;> simp only [↓vp, vq0, vq1, vq2, vq3, vr0, vr1, vr2, vr3, vr4, vr5, vr6, vr7, vr8, vr9, vr10, vr11, vr12, vr13, vr14, vr15, vr16, vr17, vr18, vr19, vr20, vr21, vr22, vr23, vr24, vr25, vr26, vr27, vr28, vr29, vr30, vr31, vr32, vr33, vr34, opS, fpS, okP, pack, nAl, allocA, shId, leaves, fillA, fillR, splice, Nat.reduceLT, Nat.reduceEqDiff, Nat.reduceLeDiff, Nat.reduceAdd, Nat.reduceSub, Nat.reduceMul, Int.reduceBEq, Int.reduceBNe, Int.reduceLT, Int.reduceLE, Int.reduceEq, reduceIte, reduceCtorEq, da, int, boolA, h4, h9, h10, h45, h46]
      · simp only [↓vp, vq0, vq1, vq2, vq3, vr0, vr1, vr2, vr3, vr4, vr5, vr6, vr7, vr8, vr9, vr10, vr11, vr12, vr13, vr14, vr15, vr16, vr17, vr18, vr19, vr20, vr21, vr22, vr23, vr24, vr25, vr26, vr27, vr28, vr29, vr30, vr31, vr32, vr33, vr34, opS, fpS, okP, pack, nAl, allocA, shId, leaves, fillA, fillR, splice, Nat.reduceLT, Nat.reduceEqDiff, Nat.reduceLeDiff, Nat.reduceAdd, Nat.reduceSub, Nat.reduceMul, Int.reduceBEq, Int.reduceBNe, Int.reduceLT, Int.reduceLE, Int.reduceEq, reduceIte, reduceCtorEq, da, int, boolA, h4, h9, h10, h45, h46, h47, g, atO gi, cO gi, ho, o_all, o_0, o_one, len_opK, c1, c2, w1]
        have hcur := hc.hx [.box false (opK o)]
        have hPx := px_hx hP [.box false (opK o)]
        obtain ⟨r1, r2, r3⟩ := Rel_ok hv0.ok hv0.tiny hr
        refine KW_ex (s32 hv ⟨hX, px_lt hPx⟩ hPx hcur r1 r2 r3 o hko (encB o.key) (nb_B _)) fun H1 hP1 => ?_
        obtain ⟨lv1, p1, k1⟩ := hP1
        have hPX1 := px_st hl ht hne hPx k1
        rw [← hx_nil H1]
        rcases do_fail (nodeM l) b a o ws with e | e
        · rw [e] at p1 ⊢
          unfold ansV itemR itemN
          simp only [↓vp, vq0, vq1, vq2, vq3, vr0, vr1, vr2, vr3, vr4, vr5, vr6, vr7, vr8, vr9, vr10, vr11, vr12, vr13, vr14, vr15, vr16, vr17, vr18, vr19, vr20, vr21, vr22, vr23, vr24, vr25, vr26, vr27, vr28, vr29, vr30, vr31, vr32, vr33, vr34, opS, fpS, okP, pack, nAl, allocA, shId, leaves, fillA, fillR, splice, Nat.reduceLT, Nat.reduceEqDiff, Nat.reduceLeDiff, Nat.reduceAdd, Nat.reduceSub, Nat.reduceMul, Int.reduceBEq, Int.reduceBNe, Int.reduceLT, Int.reduceLE, Int.reduceEq, reduceIte, reduceCtorEq, da, int, boolA, h4, h9, h10, h47, w1]
          have okn : okCs [] := ⟨by simp, by simp⟩
          refine KW_ex (s34 hv ⟨hX, px_lt (px_hx hPX1 _)⟩ (px_hx hPX1 _) (p1.hx _) okn (by simp) (by simp)) fun H2 hP2 => ?_
          obtain ⟨lv2, p2, k2⟩ := hP2
          have hPX2 := px_st hl ht hne (px_hx hPX1 _) k2
          have es : stepN (ndX (nodeM l) b) a true [] = edgeC (ndX (nodeM l) b) a false := rfl
          rw [es] at p2 ⊢
          have hfr : ∃ at2, Rel (nodeM l) a (allM l a).1.items (edgeC (ndX (nodeM l) b) a false).2 at2 := by
            rcases edge_fail (nodeM l) b a false with e | e
            · rw [e]; exact ⟨-1, .inl ⟨rfl, rfl⟩⟩
            · rw [e]; exact ⟨_, (edgeC_first (all_Tc h0)).2⟩
          have hPX2' := hPX2
          obtain ⟨⟨z4, g4⟩, _⟩ := hPX2'
          have y4 := get_old g4
          unfold byC at y4
          have q30 := fun K L Q => (KW_of (s30 hv (hx K L) a) : KW ft (.fn (.func 30) [] []) [srcXP b4 b3, int a] (hx K L) Q ↔ _)
          simp only [int] at q30
          generalize hr1 : edgeC (ndX (nodeM l) b) a false = r1 at p2 hfr
          obtain ⟨at2, hfr⟩ := hfr
          rw [← hx_nil H2]
          unfold ansV
          simp only [↓vp, vq0, vq1, vq2, vq3, vr0, vr1, vr2, vr3, vr4, vr5, vr6, vr7, vr8, vr9, vr10, vr11, vr12, vr13, vr14, vr15, vr16, vr17, vr18, vr19, vr20, vr21, vr22, vr23, vr24, vr25, vr26, vr27, vr28, vr29, vr30, vr31, vr32, vr33, vr34, opS, fpS, okP, pack, nAl, allocA, shId, leaves, fillA, fillR, splice, Nat.reduceLT, Nat.reduceEqDiff, Nat.reduceLeDiff, Nat.reduceAdd, Nat.reduceSub, Nat.reduceMul, Int.reduceBEq, Int.reduceBNe, Int.reduceLT, Int.reduceLE, Int.reduceEq, reduceIte, reduceCtorEq, da, int, boolA, h4, h9, h47, ir_one, ir_len, y4, ia2_0, q30, hx_hx]
          have l2 := Heap.get_lt p2.1
          have hPX3 : PX l a b b4 b3 (hx H2 [.box false (itemR r1.1.1), .box false [srcXP b4 b3, int a, .sc (.slice none 0 0)]]) := px_hx hPX2 _
          have hX2 : H2.next + 1 ∉ [b4, b3] := fun h => by have := px_lt hPX2 _ h; omega
          have hcN : Cur (hx H2 [.box false (itemR r1.1.1), .box false [srcXP b4 b3, int a, .sc (.slice none 0 0)]]) (H2.next + 1) (srcXP b4 b3) a (.sc (.slice none 0 0)) [] := ⟨by rw [hx_get]; rfl, .inl ⟨rfl, rfl⟩⟩
          refine KW_ex (s33 hv ⟨hX2, px_lt hPX3⟩ hPX3 hcN) fun H3 hP3 => ?_
          obtain ⟨lv3, p3, k3⟩ := hP3
          have hPX4 := px_st hl ht hne hPX3 k3
          have p2' := cur_keep (p2.hx [.box false (itemR r1.1.1), .box false [srcXP b4 b3, int a, .sc (.slice none 0 0)]]) k3 (fun j hj => by
            refine ⟨fun h => ?_, own_notX hPX3 hX (p2.hx _) hj⟩
            have hj2 := own_lt p2 (own_hx l2 hj)
            rcases h with h | ⟨s, r, o, len, h⟩
            · omega
            · rw [hcN.1] at h; cases h)
          rw [hr1, ← hx_nil H3]
          have hbb : (r1.1.2 == r1.1.2) = true := by simp
          unfold ansV
          simp only [↓vp, vq0, vq1, vq2, vq3, vr0, vr1, vr2, vr3, vr4, vr5, vr6, vr7, vr8, vr9, vr10, vr11, vr12, vr13, vr14, vr15, vr16, vr17, vr18, vr19, vr20, vr21, vr22, vr23, vr24, vr25, vr26, vr27, vr28, vr29, vr30, vr31, vr32, vr33, vr34, opS, fpS, okP, pack, nAl, allocA, shId, leaves, fillA, fillR, splice, Nat.reduceLT, Nat.reduceEqDiff, Nat.reduceLeDiff, Nat.reduceAdd, Nat.reduceSub, Nat.reduceMul, Int.reduceBEq, Int.reduceBNe, Int.reduceLT, Int.reduceLE, Int.reduceEq, reduceIte, reduceCtorEq, da, int, boolA, h47, ir_one, ir_len, w1, bne_self_eq_false]
          rw [← hx_nil (hx _ _)]
          refine ih (i + 1) _ _ lv2 _ _ (by omega) (p2'.hx _) hfr (px_hx hPX4 _) ?_ ?_ ?_ ?_ ?_ ?_ <;> simp only [↓vp, vq0, vq1, vq2, vq3, vr0, vr1, vr2, vr3, vr4, vr5, vr6, vr7, vr8, vr9, vr10, vr11, vr12, vr13, vr14, vr15, vr16, vr17, vr18, vr19, vr20, vr21, vr22, vr23, vr24, vr25, vr26, vr27, vr28, vr29, vr30, vr31, vr32, vr33, vr34, opS, fpS, okP, pack, nAl, allocA, shId, leaves, fillA, fillR, splice, Nat.reduceLT, Nat.reduceEqDiff, Nat.reduceLeDiff, Nat.reduceAdd, Nat.reduceSub, Nat.reduceMul, Int.reduceBEq, Int.reduceBNe, Int.reduceLT, Int.reduceLE, Int.reduceEq, reduceIte, reduceCtorEq, da, int, boolA, h4, h9, h10, h45, h46]
        · rw [e] at p1 ⊢
          have hR := do_good h0 o ⟨by omega, by omega⟩ hr
          have hR2 := hR.2
          unfold ansV
          rcases told_cases hR with ⟨t1, t2⟩ | ⟨m, x, t1, t2, t3⟩
          · rw [t2]
            simp only [itemR, itemN, ↓vp, vq0, vq1, vq2, vq3, vr0, vr1, vr2, vr3, vr4, vr5, vr6, vr7, vr8, vr9, vr10, vr11, vr12, vr13, vr14, vr15, vr16, vr17, vr18, vr19, vr20, vr21, vr22, vr23, vr24, vr25, vr26, vr27, vr28, vr29, vr30, vr31, vr32, vr33, vr34, opS, fpS, okP, pack, nAl, allocA, shId, leaves, fillA, fillR, splice, Nat.reduceLT, Nat.reduceEqDiff, Nat.reduceLeDiff, Nat.reduceAdd, Nat.reduceSub, Nat.reduceMul, Int.reduceBEq, Int.reduceBNe, Int.reduceLT, Int.reduceLE, Int.reduceEq, reduceIte, reduceCtorEq, da, int, boolA, h47, w1]
            rw [← hx_nil (hx _ _)]
            refine ih (i + 1) _ _ lv1 _ _ (by omega) (p1.hx _) hR2 (px_hx hPX1 _) ?_ ?_ ?_ ?_ ?_ ?_ <;> simp only [↓vp, vq0, vq1, vq2, vq3, vr0, vr1, vr2, vr3, vr4, vr5, vr6, vr7, vr8, vr9, vr10, vr11, vr12, vr13, vr14, vr15, vr16, vr17, vr18, vr19, vr20, vr21, vr22, vr23, vr24, vr25, vr26, vr27, vr28, vr29, vr30, vr31, vr32, vr33, vr34, opS, fpS, okP, pack, nAl, allocA, shId, leaves, fillA, fillR, splice, Nat.reduceLT, Nat.reduceEqDiff, Nat.reduceLeDiff, Nat.reduceAdd, Nat.reduceSub, Nat.reduceMul, Int.reduceBEq, Int.reduceBNe, Int.reduceLT, Int.reduceLE, Int.reduceEq, reduceIte, reduceCtorEq, da, int, boolA, h4, h9, h10, h45, h46]
          · rw [t3]
            simp only [itemR, ↓vp, vq0, vq1, vq2, vq3, vr0, vr1, vr2, vr3, vr4, vr5, vr6, vr7, vr8, vr9, vr10, vr11, vr12, vr13, vr14, vr15, vr16, vr17, vr18, vr19, vr20, vr21, vr22, vr23, vr24, vr25, vr26, vr27, vr28, vr29, vr30, vr31, vr32, vr33, vr34, opS, fpS, okP, pack, nAl, allocA, shId, leaves, fillA, fillR, splice, Nat.reduceLT, Nat.reduceEqDiff, Nat.reduceLeDiff, Nat.reduceAdd, Nat.reduceSub, Nat.reduceMul, Int.reduceBEq, Int.reduceBNe, Int.reduceLT, Int.reduceLE, Int.reduceEq, reduceIte, reduceCtorEq, da, int, boolA, h47, w1]
            rw [← hx_nil (hx _ _)]
            refine ih (i + 1) _ _ lv1 _ _ (by omega) (p1.hx _) hR2 (px_hx hPX1 _) ?_ ?_ ?_ ?_ ?_ ?_ <;> simp only [↓vp, vq0, vq1, vq2, vq3, vr0, vr1, vr2, vr3, vr4, vr5, vr6, vr7, vr8, vr9, vr10, vr11, vr12, vr13, vr14, vr15, vr16, vr17, vr18, vr19, vr20, vr21, vr22, vr23, vr24, vr25, vr26, vr27, vr28, vr29, vr30, vr31, vr32, vr33, vr34, opS, fpS, okP, pack, nAl, allocA, shId, leaves, fillA, fillR, splice, Nat.reduceLT, Nat.reduceEqDiff, Nat.reduceLeDiff, Nat.reduceAdd, Nat.reduceSub, Nat.reduceMul, Int.reduceBEq, Int.reduceBNe, Int.reduceLT, Int.reduceLE, Int.reduceEq, reduceIte, reduceCtorEq, da, int, boolA, h4, h9, h10, h45, h46]
theorem law11 (ha : Alive 28) (l : List NamedM) (hl : okL l) (a b : Int) (sc : List OpM) (hs : okO sc) (H : Heap) : callL ft (.fn (.func 11) [] []) [encL l, .agg (byC a b), encO sc] H = some (boolA true, H) := by
  refine call_p (as' := [encL l, .agg (byC a b), encO sc]) rfl rfl (by simp) ?_
  have ha' := fun K L Q => ha K L Q
  have hby : (byC a b).length = 2 ∧ oneAll (byC a b) = true := ⟨rfl, rfl⟩
  unfold c11 r11
  cases e1 : fewS l sc with
  | false => simp only [↓vp, vq0, vq1, vq2, vq3, vr0, vr1, vr2, vr3, vr4, vr5, vr6, vr7, vr8, vr9, vr10, vr11, vr12, vr13, vr14, vr15, vr16, vr17, vr18, vr19, vr20, vr21, vr22, vr23, vr24, vr25, vr26, vr27, vr28, vr29, vr30, vr31, vr32, vr33, vr34, opS, fpS, okP, pack, nAl, allocA, shId, leaves, fillA, fillR, splice, Nat.reduceLT, Nat.reduceEqDiff, Nat.reduceLeDiff, Nat.reduceAdd, Nat.reduceSub, Nat.reduceMul, Int.reduceBEq, Int.reduceBNe, Int.reduceLT, Int.reduceLE, Int.reduceEq, reduceIte, reduceCtorEq, da, int, boolA, RetP_go, resT, resC, resN, retV1, retV2, retV3, retV0, frzFZ, takeM, Option.some.injEq, byC, k27, hl, hs, e1, ha' _ _ _]
  | true =>
    have hf := few_F e1
    have hlen := few_len hf
    have ht := few_tiny hl hf
    have hv := srcV_X hl ht a b (b4 := 1) (b3 := 0) (by decide)
    have q29 := fun K L Q => k29 hl ht hlen (root := a) (K := K) (L := L) (Q := Q)
    have q30 := fun K L Q => (KW_of (s30 hv (hx K L) a) : KW ft (.fn (.func 30) [] []) [srcXP 1 0, int a] (hx K L) Q ↔ _)
    simp only [int, srcXP] at q29 q30
    have hN := its_200 hl hf a
    have ip : ∀ a b c, isnilA 1 (.ptr a b c) = some false := fun _ _ _ => rfl
    cases e2 : ((allM l a).2 == 0) with
    | false =>
      simp only [↓vp, vq0, vq1, vq2, vq3, vr0, vr1, vr2, vr3, vr4, vr5, vr6, vr7, vr8, vr9, vr10, vr11, vr12, vr13, vr14, vr15, vr16, vr17, vr18, vr19, vr20, vr21, vr22, vr23, vr24, vr25, vr26, vr27, vr28, vr29, vr30, vr31, vr32, vr33, vr34, opS, fpS, okP, pack, nAl, allocA, shId, leaves, fillA, fillR, splice, Nat.reduceLT, Nat.reduceEqDiff, Nat.reduceLeDiff, Nat.reduceAdd, Nat.reduceSub, Nat.reduceMul, Int.reduceBEq, Int.reduceBNe, Int.reduceLT, Int.reduceLE, Int.reduceEq, reduceIte, reduceCtorEq, da, int, boolA, RetP_go, resT, resC, resN, retV1, retV2, retV3, retV0, frzFZ, takeM, Option.some.injEq, byC, k27, hl, hs, e1, ia2_0, q29, e2, ha' _ _ _]
    | true =>
      have h0 : (allM l a).2 = 0 := by simpa using e2
      simp only [↓vp, vq0, vq1, vq2, vq3, vr0, vr1, vr2, vr3, vr4, vr5, vr6, vr7, vr8, vr9, vr10, vr11, vr12, vr13, vr14, vr15, vr16, vr17, vr18, vr19, vr20, vr21, vr22, vr23, vr24, vr25, vr26, vr27, vr28, vr29, vr30, vr31, vr32, vr33, vr34, opS, fpS, okP, pack, nAl, allocA, shId, leaves, fillA, fillR, splice, Nat.reduceLT, Nat.reduceEqDiff, Nat.reduceLeDiff, Nat.reduceAdd, Nat.reduceSub, Nat.reduceMul, Int.reduceBEq, Int.reduceBNe, Int.reduceLT, Int.reduceLE, Int.reduceEq, reduceIte, reduceCtorEq, da, int, boolA, byC, k27, hl, hs, e1, ia2_0, q29, e2, q30, hx_hx, ip, lenO]
      rw [← hx_nil (hx _ _)]
      refine l11 hl ht h0 2 1 0 (by decide) (by decide) sc hs (fun f' K hP q4 q9 => ?_) sc.length 0 (-1) [] (.sc (.slice none 0 0)) (hx Heap.empty [.box false [encL l], .box false (byC a b), .box false [srcXP 1 0, int a, .sc (.slice none 0 0)]]) _ (by simp) ⟨by rw [hxe_get]; rfl, .inl ⟨rfl, rfl⟩⟩ (.inl ⟨rfl, rfl⟩) ⟨⟨false, by rw [hxe_get]; rfl⟩, false, by rw [hxe_get]; rfl⟩ ?_ ?_ ?_ ?_ ?_ ?_
      · obtain ⟨K', hP', hFr, hz⟩ := srcX_fz (by decide) hP
        obtain ⟨⟨z4, g4⟩, _⟩ := hP
        have y4 := get_old g4
        unfold byC at y4
        have x39 : ∀ (L : List Blk) (Q : AV → Heap → Prop), KW ft (.fn (.func 39) [] []) [srcXP 1 0, .sc (.int .i64 a), .sc (.slice none 0 0)] (hx K L) Q ↔ Q (eachF (srcXF l a b) a []) (hx K' L) := fun L Q => KW_of (s39 rfl rfl (fun _ _ => rfl) (by
          rw [frzCells_eq, frzL_cons, hz]
          simp only [Option.bind_some, frzL_cons, frzL_nil, frz_int, frz_nils]
          rfl))
        unfold c11R2
        simp only [↓vp, vq0, vq1, vq2, vq3, vr0, vr1, vr2, vr3, vr4, vr5, vr6, vr7, vr8, vr9, vr10, vr11, vr12, vr13, vr14, vr15, vr16, vr17, vr18, vr19, vr20, vr21, vr22, vr23, vr24, vr25, vr26, vr27, vr28, vr29, vr30, vr31, vr32, vr33, vr34, opS, fpS, okP, pack, nAl, allocA, shId, leaves, fillA, fillR, splice, Nat.reduceLT, Nat.reduceEqDiff, Nat.reduceLeDiff, Nat.reduceAdd, Nat.reduceSub, Nat.reduceMul, Int.reduceBEq, Int.reduceBNe, Int.reduceLT, Int.reduceLE, Int.reduceEq, reduceIte, reduceCtorEq, da, int, boolA, q4, q9, y4, ia2_0, x39]
        have hvX := srcV_P (srcP_X hl ht a b)
        have hv0 := srcV_F hl ht
        have hcn : ∀ at_ : Int, cnt (allM l a).1.items at_ ≤ 200 := fun at_ => by unfold cnt; split <;> omega
        refine range_count (g := False) (root := a) (nd0 := nodeM l) (its := (allM l a).1.items) (at0 := doR (allM l a).1.items (-1) ⟨0, []⟩) (key := []) hvX (fun _ => trivial) okB_nil ?_ (fun i ws hg => ?_) (fun ws at_ hr => Rel_ok hv0.ok hv0.tiny hr) (ns := 22) (nid := K.next) (by decide) (by simp only [↓vp, vq0, vq1, vq2, vq3, vr0, vr1, vr2, vr3, vr4, vr5, vr6, vr7, vr8, vr9, vr10, vr11, vr12, vr13, vr14, vr15, vr16, vr17, vr18, vr19, vr20, vr21, vr22, vr23, vr24, vr25, vr26, vr27, vr28, vr29, vr30, vr31, vr32, vr33, vr34, opS, fpS, okP, pack, nAl, allocA, shId, leaves, fillA, fillR, splice, Nat.reduceLT, Nat.reduceEqDiff, Nat.reduceLeDiff, Nat.reduceAdd, Nat.reduceSub, Nat.reduceMul, Int.reduceBEq, Int.reduceBNe, Int.reduceLT, Int.reduceLE, Int.reduceEq, reduceIte, reduceCtorEq]) (by decide) (by simp only [↓vp, vq0, vq1, vq2, vq3, vr0, vr1, vr2, vr3, vr4, vr5, vr6, vr7, vr8, vr9, vr10, vr11, vr12, vr13, vr14, vr15, vr16, vr17, vr18, vr19, vr20, vr21, vr22, vr23, vr24, vr25, vr26, vr27, vr28, vr29, vr30, vr31, vr32, vr33, vr34, opS, fpS, okP, pack, nAl, allocA, shId, leaves, fillA, fillR, splice, Nat.reduceLT, Nat.reduceEqDiff, Nat.reduceLeDiff, Nat.reduceAdd, Nat.reduceSub, Nat.reduceMul, Int.reduceBEq, Int.reduceBNe, Int.reduceLT, Int.reduceLE, Int.reduceEq, reduceIte, reduceCtorEq]) (fun K2 f2 m p1 p2 p3 => ?_) (H := hx K' [.box false [.sc (.int .i64 0)]]) (by rw [← hFr.nx, hx_get0]; rfl) (by have := hcn (doR (allM l a).1.items (-1) ⟨0, []⟩); omega) [] (fun j hj => by simp at hj) (fun H5 m hm1 hm2 hn5 hZ5 => ?_)
        · have hR := do_good h0 ⟨0, []⟩ ⟨by decide, by decide⟩ (ws := []) (at_ := -1) (.inl ⟨rfl, rfl⟩)
          rcases seek_fail (nodeM l) b a [] with e | e
          · exact .inr ⟨id, e⟩
          · left; rw [e]; exact hR
        · have hR : Right (nodeM l) a (allM l a).1.items (if (i : Int) + 1 = (allM l a).1.items.length then -1 else (i : Int) + 1) (stepN (nodeM l) a true ws) := by
            have hne := PosI_ne hg.1
            have := mv_good hg 1 (.inl rfl)
            unfold stepN
            rw [if_neg hne]
            exact this
          rcases step_fail (nodeM l) b a true ws with e | e
          · exact .inr ⟨id, e⟩
          · left; rw [e]; exact hR
        · unfold c11B1
          have w1 : IntKind.i64.wrap ((m : Int) + 1) = ((m + 1 : Nat) : Int) := by rw [wrap_i64 (by omega)]; omega
          have o1 := get_old p2
          have lK := Heap.get_lt p2
          have pp := fun L b => hx_set_old K2 L b (K.next) lK
          simp only [↓vp, vq0, vq1, vq2, vq3, vr0, vr1, vr2, vr3, vr4, vr5, vr6, vr7, vr8, vr9, vr10, vr11, vr12, vr13, vr14, vr15, vr16, vr17, vr18, vr19, vr20, vr21, vr22, vr23, vr24, vr25, vr26, vr27, vr28, vr29, vr30, vr31, vr32, vr33, vr34, opS, fpS, okP, pack, nAl, allocA, shId, leaves, fillA, fillR, splice, Nat.reduceLT, Nat.reduceEqDiff, Nat.reduceLeDiff, Nat.reduceAdd, Nat.reduceSub, Nat.reduceMul, Int.reduceBEq, Int.reduceBNe, Int.reduceLT, Int.reduceLE, Int.reduceEq, reduceIte, reduceCtorEq, da, int, boolA, p1, o1, w1, pp]
          rw [hx_nil]
        · have gn := get_old hn5
          have hm3 : ((m : Int) ≤ 200) = True := eq_true (by have := hcn (doR (allM l a).1.items (-1) ⟨0, []⟩); omega)
          rw [← hx_nil H5]
          simp only [↓vp, vq0, vq1, vq2, vq3, vr0, vr1, vr2, vr3, vr4, vr5, vr6, vr7, vr8, vr9, vr10, vr11, vr12, vr13, vr14, vr15, vr16, vr17, vr18, vr19, vr20, vr21, vr22, vr23, vr24, vr25, vr26, vr27, vr28, vr29, vr30, vr31, vr32, vr33, vr34, opS, fpS, okP, pack, nAl, allocA, shId, leaves, fillA, fillR, splice, Nat.reduceLT, Nat.reduceEqDiff, Nat.reduceLeDiff, Nat.reduceAdd, Nat.reduceSub, Nat.reduceMul, Int.reduceBEq, Int.reduceBNe, Int.reduceLT, Int.reduceLE, Int.reduceEq, reduceIte, reduceCtorEq, da, int, boolA, RetP_go, resT, resC, resN, retV1, retV2, retV3, retV0, frzFZ, takeM, Option.some.injEq, gn, hm3, ha' _ _ _]
      all_goals first | rfl | (simp only [↓vp, vq0, vq1, vq2, vq3, vr0, vr1, vr2, vr3, vr4, vr5, vr6, vr7, vr8, vr9, vr10, vr11, vr12, vr13, vr14, vr15, vr16, vr17, vr18, vr19, vr20, vr21, vr22, vr23, vr24, vr25, vr26, vr27, vr28, vr29, vr30, vr31, vr32, vr33, vr34, opS, fpS, okP, pack, nAl, allocA, shId, leaves, fillA, fillR, splice, Nat.reduceLT, Nat.reduceEqDiff, Nat.reduceLeDiff, Nat.reduceAdd, Nat.reduceSub, Nat.reduceMul, Int.reduceBEq, Int.reduceBNe, Int.reduceLT, Int.reduceLE, Int.reduceEq, reduceIte, reduceCtorEq, da, int, boolA, lenO, srcXP]; done)
end Go.VI

set_option linter.unusedVariables false
set_option linter.unusedSimpArgs false
namespace Go.VI
open Go.Proofs
theorem CVF.append {F : Fz} {a b : List AV} {cs : List Value} {n : Nat} (hn : n ≤ cs.length) (ha : CVF F a (cs.take n)) (hb : CVF F b (cs.drop n)) : CVF F (a ++ b) cs := by
  have hla : a.length = n := by rw [ha.1, List.length_take]; omega
  refine ⟨by rw [List.length_append, hb.1, hla, List.length_drop]; omega, fun i c h => ?_⟩
  by_cases hi : i < n
  · rw [List.getElem?_append_left (by omega)] at h
    obtain ⟨h1, h2⟩ := ha.2 i c h
    refine ⟨h1, ?_⟩
    rwa [List.getD_eq_getElem?_getD, List.getElem?_take_of_lt hi, ← List.getD_eq_getElem?_getD] at h2
  · rw [List.getElem?_append_right (by omega)] at h
    obtain ⟨h1, h2⟩ := hb.2 _ c h
    refine ⟨h1, ?_⟩
    rw [List.getD_eq_getElem?_getD, List.getElem?_drop] at h2
    rw [List.getD_eq_getElem?_getD]
    rwa [show n + (i - a.length) = i by omega] at h2
theorem rd_elems {P : Program} {W : World} {e : TypeId} {E : List AV → Prop} (he : RD P W e E) {sz : Nat} {H : Type} {enc : TypeId × Value → H} {base : Nat} {spare : Nat → Bool} {held : Bool} {m : Nat} :
    ∀ (n : Nat) (cs : List Value) (xs : List (DataW H × List MemPlace)), xs.length = n → cs.length = n * sz →
      (∀ i, i < n → DataW.trod enc P W base spare held m e ((cs.drop (i * sz)).take sz) = xs[i]?) → (∀ k ∈ DataW.weightsAll P e (xs.map (·.1)), k ≤ reachBytes) →
      ∃ rows : List (List AV), rows.length = n ∧ (∀ r ∈ rows, E r ∧ r.length = sz) ∧ CVF (frzW W) rows.flatten cs
  | 0, cs, xs, _, hc, _, _ => ⟨[], rfl, by simp, by
      rw [Nat.zero_mul] at hc
      exact ⟨hc.symm, fun i c h => by simp at h⟩⟩
  | n + 1, cs, [], hl, _, _, _ => by simp at hl
  | n + 1, cs, x :: xs, hl, hc, hx, hw => by
    simp only [List.length_cons, Nat.add_right_cancel_iff] at hl
    rw [Nat.add_one_mul] at hc
    have h0 := hx 0 (by omega)
    rw [Nat.zero_mul, List.drop_zero, List.getElem?_cons_zero] at h0
    simp only [List.map_cons, DataW.weightsAll, List.mem_append] at hw
    obtain ⟨r, h1, h2⟩ := he H enc base spare held m _ x h0 fun k hk => hw k (.inl hk)
    have hlr : r.length = sz := by rw [h2.1, List.length_take]; omega
    obtain ⟨rows, q1, q2, q3⟩ := rd_elems he (sz := sz) (enc := enc) (base := base) (spare := spare) (held := held) (m := m) n (cs.drop sz) xs hl (by rw [List.length_drop]; omega) (fun i hi => by
      have := hx (i + 1) (by omega)
      rw [List.getElem?_cons_succ] at this
      rw [List.drop_drop, ← this, Nat.add_one_mul, Nat.add_comm]) fun k hk => hw k (.inr hk)
    refine ⟨r :: rows, by simp [q1], fun y hy => ?_, ?_⟩
    · rcases List.mem_cons.1 hy with rfl | hy
      · exact ⟨h1, hlr⟩
      · exact q2 y hy
    · rw [List.flatten_cons]
      exact .append (n := sz) (by omega) h2 q3
theorem rd_array {P : Program} {W : World} {t e : TypeId} {E : List AV → Prop} {n sz : Nat} (ht : P.underlying t = some (.array n e)) (hc : P.cellsOf e = sz) (hct : P.cellsOf t = n * sz) (he : RD P W e E) :
    RD P W t fun xs => ∃ rows : List (List AV), xs = rows.flatten ∧ rows.length = n ∧ ∀ r ∈ rows, E r ∧ r.length = sz := fun H enc base spare held fuel cs x h hw => by
  obtain ⟨xs, m, rfl, rfl, hl, hx, hf⟩ := DataW.trod_array ht h
  rw [hc] at hf
  obtain ⟨rows, q1, q2, q3⟩ := rd_elems he n cs xs hx (by rw [hl, hct]) hf fun k hk => hw k (by simpa [DataW.weights, ht] using hk)
  exact ⟨_, ⟨rows, rfl, q1, q2⟩, q3⟩
theorem okWide_agg {P : Program} {w : World} {r : Reach} {base : Nat} {t e : TypeId} {n : Nat} {v : Value} (ht : P.underlying t = some (.array n e)) (h : Value.okWide P w r base t v) : ∃ cs, v = .agg cs := by
  unfold Value.okWide at h
  rw [ht] at h
  obtain ⟨cs, h1, _⟩ := h
  exact ⟨cs, h1⟩
/-- Arguments: aggregates among them. -/
def CVA (F : Fz) (xs : List AV) (cs : List Value) : Prop := xs.length = cs.length ∧ ∀ i c, xs[i]? = some c → VF F c (cs.getD i undef)
theorem CVF.cva {F : Fz} {xs : List AV} {cs : List Value} (h : CVF F xs cs) : CVA F xs cs := ⟨h.1, fun i c hc => (h.2 i c hc).2⟩
theorem CVA.one {F : Fz} {a : AV} {v : Value} (h : VF F a v) : CVA F [a] [v] := ⟨rfl, fun i c hc => by
  cases i with
  | zero => cases hc; exact h
  | succ i => simp at hc⟩
theorem CVA.cons {F : Fz} {a : AV} {v : Value} {l : List AV} {vs : List Value} (h : CVA F [a] [v]) (ht : CVA F l vs) : CVA F (a :: l) (v :: vs) := ⟨by simp [ht.1], fun i c hc => by
  cases i with
  | zero => exact h.2 0 c hc
  | succ i => exact ht.2 i c hc⟩
theorem CVA.agg {F : Fz} {xs : List AV} {cs : Array Value} (h : CVF F xs cs.toList) : CVA F [.agg xs] [.agg cs] :=
  .one (.agg (by have := h.1; simpa using this.symm) (fun i c hc => (h.2 i c hc).1) (fun i c hc => by
    have := (h.2 i c hc).2
    rwa [List.getD_eq_getElem?_getD, Array.getElem?_toList, ← Array.getD_eq_getD_getElem?] at this))
theorem vrs_ofA {F : Fz} {m : Mp} {args : List AV} {vs : List Value} (h : CVA F args vs) : VRs m F args vs.toArray := by
  refine ⟨?_, ?_⟩
  · simp [h.1]
  · intro i c hc
    have := h.2 i c hc
    simpa using VR.fz this
end Go.VI

set_option linter.unusedVariables false
set_option linter.unusedSimpArgs false
namespace Go.VI
open Go.Proofs
def encA2 (p : Int × Int) : List AV := byC p.1 p.2
def okA2 (p : Int × Int) : Prop := True
theorem rdA2 (W : World) : RD Try.prog W 86 fun xs => ∃ p : Int × Int, xs = encA2 p ∧ okA2 p :=
  (rd_array (n := 2) (sz := 1) Try.underlying86 (by kernel_rfl) (by kernel_rfl) (rdN W)).mono fun xs ⟨rows, h1, h2, h3⟩ => by
    match rows, h2 with
    | [r, s], _ =>
      obtain ⟨⟨a, rfl, _⟩, _⟩ := h3 r (by simp)
      obtain ⟨⟨b, rfl, _⟩, _⟩ := h3 s (by simp)
      exact ⟨(a, b), h1, trivial⟩
end Go.VI
