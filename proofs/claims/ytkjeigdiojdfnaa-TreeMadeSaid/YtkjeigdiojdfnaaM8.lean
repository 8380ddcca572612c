import Derived.Test.YtkjeigdiojdfnaaM7
/- VI, part TE: plain laws of trees: what All tells, and what the ways find. -/
set_option linter.unusedVariables false
set_option linter.unusedSimpArgs false
namespace Go.VI

/-! ### the order of keys -/
theorem cmpB_eq : ∀ {a b : Bytes}, cmpB a b = 0 → a = b
  | [], [], _ => rfl
  | [], _ :: _, h => by simp [cmpB] at h
  | _ :: _, [], h => by simp [cmpB] at h
  | x :: a, y :: b, h => by
    simp only [cmpB] at h
    by_cases h1 : x < y
    · simp [h1] at h
    · by_cases h2 : y < x
      · simp [h1, h2] at h
      · simp only [h1, h2, if_false] at h
        have : x = y := by omega
        rw [this, cmpB_eq h]
theorem le_lt {a b c : Bytes} (h : cmpB a b ≤ 0) (k : cmpB b c < 0) : cmpB a c < 0 := by
  by_cases h0 : cmpB a b = 0
  · rw [cmpB_eq h0]; exact k
  · exact cmpB_trans a b c (by omega) (by omega)
theorem le_le {a b c : Bytes} (h : cmpB a b ≤ 0) (k : cmpB b c ≤ 0) : cmpB a c ≤ 0 := by
  by_cases h0 : cmpB a b = 0
  · rw [cmpB_eq h0]; exact k
  · exact Int.le_of_lt (cmpB_trans a b c (by omega) k)
theorem ge_iff {a b : Bytes} : 0 ≤ cmpB a b ↔ cmpB b a ≤ 0 := by
  have := cmpB_swap a b
  omega
def Rise (l : List Bytes) : Prop := l.Pairwise fun x y => cmpB x y < 0
theorem ksM_bnd {p : PlaceM} : ∀ {l : List Bytes} {o : Option Bytes}, ksM p o l = true → ∀ x ∈ l, bndM p x = true
  | [], _, _, x, hx => by cases hx
  | y :: l, o, h, x, hx => by
    simp only [ksM, Bool.and_eq_true] at h
    rcases List.mem_cons.1 hx with rfl | hx
    · exact h.1.1
    · exact ksM_bnd h.2 x hx
theorem ksM_rise {p : PlaceM} : ∀ {l : List Bytes} {o : Option Bytes}, ksM p o l = true → Rise l ∧ ∀ y, o = some y → ∀ x ∈ l, cmpB y x < 0
  | [], _, _ => ⟨List.Pairwise.nil, fun _ _ x hx => by cases hx⟩
  | z :: l, o, h => by
    simp only [ksM, Bool.and_eq_true] at h
    obtain ⟨h1, h2⟩ := ksM_rise h.2
    refine ⟨List.pairwise_cons.2 ⟨h2 z rfl, h1⟩, fun y hy x hx => ?_⟩
    subst hy
    have h3 : cmpB y z < 0 := by simpa using h.1.2
    rcases List.mem_cons.1 hx with rfl | hx
    · exact h3
    · exact cmpB_trans _ _ _ h3 (Int.le_of_lt (h2 z rfl x hx))
theorem bnd_iff {p : PlaceM} {k : Bytes} : bndM p k = true ↔ (p.li = true → cmpB p.lk k ≤ 0) ∧ (p.hi = true → cmpB k p.hk < 0) := by
  unfold bndM
  have := @ge_iff k p.lk
  cases p.li <;> cases p.hi <;> simp [this]

/-! ### trees -/
inductive Tr (l : List NamedM) : Nat → PlaceM → Int → List ItemM → Prop
  | leaf {d : Nat} {p : PlaceM} {n : NodeM} (hn : nodeM l p.ref = (n, 0)) (hl : n.leaf = true) (hk : n.kids = []) (ho : ksM p none (n.items.map (·.key)) = true) (he : p.deep = 1 ∨ n.items ≠ []) : Tr l (d + 1) p p.deep n.items
  | branch {d : Nat} {p : PlaceM} {n : NodeM} {D : Int} {its : List (List ItemM)} (hn : nodeM l p.ref = (n, 0)) (hl : n.leaf = false) (hk : 2 ≤ n.kids.length) (ho : ksM p none ((n.kids.drop 1).map (·.key)) = true)
      (hi : its.length = n.kids.length) (h : ∀ (k : Nat) (x : List ItemM), its[k]? = some x → Tr l d (kidM p n k) D x) : Tr l (d + 1) p D its.flatten
theorem go_Tr {l : List NamedM} {d : Nat} {p : PlaceM} {n : NodeM} (hv : ∀ (k : Nat) (w : WM), (visitM l d (kidM p n k) w).1 = 0 → ∃ its, (visitM l d (kidM p n k) w).2.items = w.items ++ its ∧ Tr l d (kidM p n k) (visitM l d (kidM p n k) w).2.depth its ∧ 0 < (visitM l d (kidM p n k) w).2.depth ∧
      (0 < w.depth → (visitM l d (kidM p n k) w).2.depth = w.depth)) : ∀ (j k : Nat) (w : WM), (goM (visitM l d) p n (List.range' k j) w).1 = 0 →
    ∃ its : List (List ItemM), its.length = j ∧ (goM (visitM l d) p n (List.range' k j) w).2.items = w.items ++ its.flatten ∧ (∀ (i : Nat) (x : List ItemM), its[i]? = some x → Tr l d (kidM p n (k + i)) (goM (visitM l d) p n (List.range' k j) w).2.depth x) ∧
      (0 < j → 0 < (goM (visitM l d) p n (List.range' k j) w).2.depth) ∧ (0 < w.depth → (goM (visitM l d) p n (List.range' k j) w).2.depth = w.depth)
  | 0, k, w, _ => ⟨[], rfl, by simp [goM], by simp, by simp, fun _ => by simp [goM]⟩
  | j + 1, k, w, h => by
    rw [List.range'_succ] at h ⊢
    by_cases h0 : (visitM l d (kidM p n k) w).1 = 0
    · rw [goM_ok h0] at h ⊢
      obtain ⟨a, h1, h2, h3, h4⟩ := hv k w h0
      obtain ⟨as', g1, g2, g3, g4, g5⟩ := go_Tr hv j (k + 1) _ h
      have hD := g5 h3
      refine ⟨a :: as', by simp [g1], ?_, fun i x hx => ?_, fun _ => by rw [hD]; exact h3, fun hw => by rw [hD]; exact h4 hw⟩
      · rw [g2, h1, List.flatten_cons, List.append_assoc]
      · cases i with
        | zero =>
          cases hx
          rw [hD]
          exact h2
        | succ i =>
          have := g3 i x hx
          rwa [show k + 1 + i = k + (i + 1) by omega] at this
    · rw [goM_bad h0] at h
      exact absurd h h0
theorem visit_Tr {l : List NamedM} : ∀ (d : Nat) (p : PlaceM) (w : WM), 1 ≤ p.deep → (visitM l d p w).1 = 0 →
    ∃ its, (visitM l d p w).2.items = w.items ++ its ∧ Tr l d p (visitM l d p w).2.depth its ∧ 0 < (visitM l d p w).2.depth ∧ (0 < w.depth → (visitM l d p w).2.depth = w.depth)
  | 0, p, w, _, h => by cases h
  | d + 1, p, w, hd, h => by
    have hv : visitM l (d + 1) p w = if (nodeW l p w).2.1 ≠ 0 then ((nodeW l p w).2.1, (nodeW l p w).2.2) else goM (visitM l d) p (nodeW l p w).1 (List.range (nodeW l p w).1.kids.length) (nodeW l p w).2.2 := rfl
    rw [hv] at h ⊢
    by_cases he : (nodeW l p w).2.1 = 0
    · rw [if_neg (by simpa using he)] at h ⊢
      unfold nodeW at he h ⊢
      by_cases h1 : 12 < p.deep
      · rw [if_pos h1] at he; cases he
      · rw [if_neg h1] at he h ⊢
        by_cases h2 : (nodeM l p.ref).2 ≠ 0
        · rw [if_pos h2] at he; exact absurd he h2
        · rw [if_neg h2] at he h ⊢
          by_cases h3 : (w.refs.contains p.ref || !formM w.depth p (nodeM l p.ref).1) = true
          · rw [if_pos h3] at he; cases he
          · rw [if_neg h3] at he h ⊢
            have hn : nodeM l p.ref = ((nodeM l p.ref).1, 0) := by
              have : (nodeM l p.ref).2 = 0 := by simpa using h2
              rw [← this]
            have hf : formM w.depth p (nodeM l p.ref).1 = true := by
              cases hh : formM w.depth p (nodeM l p.ref).1 with
              | true => rfl
              | false => rw [hh] at h3; simp at h3
            generalize (nodeM l p.ref).1 = n at *
            simp only at h ⊢
            unfold formM at hf
            cases hl : n.leaf with
            | true =>
              simp only [hl, if_true] at hf h ⊢
              simp only [Bool.and_eq_true, Bool.not_eq_true', decide_eq_false_iff_not] at hf
              obtain ⟨⟨⟨f1, f2⟩, f3⟩, f4⟩ := hf
              have hk : n.kids = [] := List.eq_nil_of_length_eq_zero (by omega)
              have e : keysM n = n.items.map (·.key) := by simp [keysM, hk]
              rw [e] at f4
              have hr : List.range n.kids.length = [] := by rw [hk]; rfl
              rw [hr]
              refine ⟨n.items, rfl, .leaf hn hl hk f4 ?_, by show 0 < p.deep; omega, fun hw => ?_⟩
              · rcases Bool.or_eq_true_iff.1 f2 with q | q
                · right
                  intro hh
                  rw [hh] at q
                  simp at q
                · left
                  simpa using q
              · show p.deep = w.depth
                have : decide (0 < w.depth) = true := by simpa using hw
                rw [this, Bool.true_and] at f3
                simp at f3
                exact f3.symm
            | false =>
              simp only [hl, Bool.false_eq_true, if_false] at hf h ⊢
              simp only [Bool.and_eq_true, Bool.not_eq_true', decide_eq_false_iff_not] at hf
              obtain ⟨⟨f1, f2⟩, f4⟩ := hf
              have hk : n.items = [] := List.eq_nil_of_length_eq_zero (by omega)
              have e : keysM n = (n.kids.drop 1).map (·.key) := by simp [keysM, hk]
              rw [e] at f4
              rw [List.range_eq_range'] at h ⊢
              obtain ⟨its, g1, g2, g3, g4, g5⟩ := go_Tr (fun k w hh => visit_Tr d (kidM p n k) w (by show 1 ≤ p.deep + 1; omega) hh) n.kids.length 0 ⟨w.items, w.refs ++ [p.ref], w.depth⟩ h
              exact ⟨its.flatten, g2, .branch hn hl (by omega) f4 g1 (fun k x hx => by simpa using g3 k x hx), g4 (by omega), g5⟩
    · rw [if_pos he] at h
      exact absurd h he

/-! ### where a tree's items are -/
theorem kid_key {n : NodeM} {k : Nat} (h : k < n.kids.length) : ((n.kids[k]?).map (·.key)).getD [] = n.kids[k].key := by simp [h]
theorem kid_low {p : PlaceM} {n : NodeM} {k : Nat} (h : k < n.kids.length) (h0 : 0 < k) : (kidM p n k).li = true ∧ (kidM p n k).lk = n.kids[k].key := by
  simp only [kidM, if_pos h0, kid_key h, and_self]
theorem kid_low0 {p : PlaceM} {n : NodeM} : (kidM p n 0).li = p.li ∧ (kidM p n 0).lk = p.lk := by simp [kidM]
theorem kid_high {p : PlaceM} {n : NodeM} {k : Nat} (h : k + 1 < n.kids.length) : (kidM p n k).hi = true ∧ (kidM p n k).hk = n.kids[k + 1].key := by
  simp only [kidM, if_pos h, kid_key h, and_self]
theorem kid_high0 {p : PlaceM} {n : NodeM} {k : Nat} (h : ¬ k + 1 < n.kids.length) : (kidM p n k).hi = p.hi ∧ (kidM p n k).hk = p.hk := by simp [kidM, h]
theorem drop_rise {n : NodeM} {i j : Nat} (h : Rise ((n.kids.drop 1).map (·.key))) (hi : 0 < i) (hij : i < j) (hj : j < n.kids.length) : cmpB n.kids[i].key n.kids[j].key < 0 := by
  have := List.pairwise_iff_getElem.1 h (i - 1) (j - 1) (by simp; omega) (by simp; omega) (by omega)
  simpa [show i - 1 + 1 = i by omega, show j - 1 + 1 = j by omega, Nat.add_comm 1] using this
theorem drop_rise' {n : NodeM} {i j : Nat} (h : Rise ((n.kids.drop 1).map (·.key))) (hi : 0 < i) (hij : i ≤ j) (hj : j < n.kids.length) : cmpB n.kids[i].key n.kids[j].key ≤ 0 := by
  by_cases e : i = j
  · subst e
    rw [cmpB_refl]
    exact Int.le_refl _
  · exact Int.le_of_lt (drop_rise h hi (by omega) hj)
theorem drop_bnd {p : PlaceM} {n : NodeM} {i : Nat} (h : ksM p none ((n.kids.drop 1).map (·.key)) = true) (hi : 0 < i) (hj : i < n.kids.length) : bndM p n.kids[i].key = true :=
  ksM_bnd h _ (List.mem_map.2 ⟨n.kids[i], List.mem_iff_getElem.2 ⟨i - 1, by simp; omega, by simp [show 1 + (i - 1) = i by omega, show i - 1 + 1 = i by omega]⟩, rfl⟩)
/-- What is between a kid's keys is between its parent's. -/
theorem kid_bnd {p : PlaceM} {n : NodeM} {k : Nat} (ho : ksM p none ((n.kids.drop 1).map (·.key)) = true) (hk : k < n.kids.length) {key : Bytes} (h : bndM (kidM p n k) key = true) : bndM p key = true := by
  rw [bnd_iff] at h ⊢
  refine ⟨fun hp => ?_, fun hp => ?_⟩
  · by_cases h0 : 0 < k
    · obtain ⟨e1, e2⟩ := kid_low (p := p) hk h0
      have h1 := h.1 e1
      rw [e2] at h1
      exact le_le ((bnd_iff.1 (drop_bnd ho h0 hk)).1 hp) h1
    · have : k = 0 := by omega
      subst this
      have h1 := h.1
      rw [kid_low0.1, kid_low0.2] at h1
      exact h1 hp
  · by_cases h0 : k + 1 < n.kids.length
    · obtain ⟨e1, e2⟩ := kid_high (p := p) h0
      have h1 := h.2 e1
      rw [e2] at h1
      exact cmpB_trans _ _ _ h1 (Int.le_of_lt ((bnd_iff.1 (drop_bnd ho (by omega) h0)).2 hp))
    · obtain ⟨e1, e2⟩ := kid_high0 (p := p) h0
      have h1 := h.2
      rw [e1, e2] at h1
      exact h1 hp
theorem Tr_bnd {l : List NamedM} {d : Nat} {p : PlaceM} {D : Int} {its : List ItemM} (h : Tr l d p D its) : ∀ x ∈ its, bndM p x.key = true := by
  induction h with
  | leaf hn hl hk ho he => exact fun x hx => ksM_bnd ho _ (List.mem_map.2 ⟨x, hx, rfl⟩)
  | branch hn hl hk ho hi h ih =>
    intro x hx
    obtain ⟨y, hy, hx⟩ := List.mem_flatten.1 hx
    obtain ⟨k, hk', e⟩ := List.mem_iff_getElem.1 hy
    have e' := List.getElem?_eq_some_iff.2 ⟨hk', e⟩
    exact kid_bnd ho (by omega) (ih k y e' x hx)
/-- Of two kids the first one's keys are below the other one's. -/
theorem kids_lt {p : PlaceM} {n : NodeM} {i j : Nat} (ho : ksM p none ((n.kids.drop 1).map (·.key)) = true) (hij : i < j) (hj : j < n.kids.length) {a b : Bytes} (ha : bndM (kidM p n i) a = true) (hb : bndM (kidM p n j) b = true) : cmpB a b < 0 := by
  obtain ⟨e1, e2⟩ := kid_high (p := p) (show i + 1 < n.kids.length by omega)
  obtain ⟨f1, f2⟩ := kid_low (p := p) hj (by omega)
  have h1 := (bnd_iff.1 ha).2 e1
  have h2 := (bnd_iff.1 hb).1 f1
  rw [e2] at h1
  rw [f2] at h2
  exact cmpB_trans _ _ _ h1 (le_le (drop_rise' (ksM_rise ho).1 (by omega) hij hj) h2)
def RiseI (l : List ItemM) : Prop := l.Pairwise fun x y => cmpB x.key y.key < 0
theorem Tr_rise {l : List NamedM} {d : Nat} {p : PlaceM} {D : Int} {its : List ItemM} (h : Tr l d p D its) : RiseI its := by
  induction h with
  | leaf hn hl hk ho he => exact List.pairwise_map.1 (ksM_rise ho).1
  | branch hn hl hk ho hi h ih =>
    refine List.pairwise_flatten.2 ⟨fun y hy => ?_, List.pairwise_iff_getElem.2 fun i j hi' hj' hij x hx y hy => ?_⟩
    · obtain ⟨k, hk', e⟩ := List.mem_iff_getElem.1 hy
      exact ih k y (List.getElem?_eq_some_iff.2 ⟨hk', e⟩)
    · exact kids_lt ho hij (by omega) (Tr_bnd (h i _ (List.getElem?_eq_getElem hi')) x hx) (Tr_bnd (h j _ (List.getElem?_eq_getElem hj')) y hy)
theorem rise_risI : ∀ {l : List ItemM}, RiseI l → risI l = true
  | [], _ => rfl
  | [x], _ => rfl
  | x :: y :: l, h => by
    obtain ⟨h1, h2⟩ := List.pairwise_cons.1 h
    simp only [risI, Bool.and_eq_true, decide_eq_true_eq]
    exact ⟨h1 y List.mem_cons_self, rise_risI h2⟩
theorem rise_one {l : List ItemM} (h : RiseI l) {x y : ItemM} (hx : x ∈ l) (hy : y ∈ l) (e : x.key = y.key) : x = y := by
  obtain ⟨i, hi, rfl⟩ := List.mem_iff_getElem.1 hx
  obtain ⟨j, hj, rfl⟩ := List.mem_iff_getElem.1 hy
  have h0 : ∀ a b : ItemM, a.key = b.key → ¬ cmpB a.key b.key < 0 := fun a b e => by rw [e, cmpB_refl]; omega
  rcases Nat.lt_trichotomy i j with h1 | h1 | h1
  · exact absurd (List.pairwise_iff_getElem.1 h i j hi hj h1) (h0 _ _ e)
  · subst h1; rfl
  · exact absurd (List.pairwise_iff_getElem.1 h j i hj hi h1) (h0 _ _ e.symm)

/-! ### what the ways find -/
theorem side_spec (l : List KidM) (key : Bytes) : ∀ k, k < l.length → sideD l key k ≤ k ∧ (∀ (h : sideD l key k < l.length), 0 < sideD l key k → cmpB l[sideD l key k].key key ≤ 0) ∧ (∀ (i : Nat) (h : i < l.length), sideD l key k < i → i ≤ k → 0 < cmpB l[i].key key)
  | 0, h => by
    refine ⟨Nat.le_refl _, fun _ h => by simp [sideD] at h, fun i hi h1 h2 => ?_⟩
    simp [sideD] at h1
    omega
  | k + 1, h => by
    have hs : sideD l key (k + 1) = if 0 < cmpB l[k + 1].key key then sideD l key k else k + 1 := by
      rw [sideD, List.getElem?_eq_getElem h, Option.elim_some]
    obtain ⟨h1, h2, h3⟩ := side_spec l key k (by omega)
    by_cases hc : 0 < cmpB l[k + 1].key key
    · rw [if_pos hc] at hs
      rw [hs]
      refine ⟨by omega, h2, fun i hi g1 g2 => ?_⟩
      by_cases e : i = k + 1
      · subst e; exact hc
      · exact h3 i hi g1 (by omega)
    · rw [if_neg hc] at hs
      refine ⟨by omega, fun h' _ => ?_, fun i hi g1 g2 => by omega⟩
      have : l[sideD l key (k + 1)] = l[k + 1] := by simp only [hs]
      rw [this]
      omega
theorem refM_leaf {kf : NodeM → Int} {l : List NamedM} {d : Nat} {ref : Int} {n : NodeM} (hn : nodeM l ref = (n, 0)) (hl : n.leaf = true) : refM kf l (d + 1) ref = ([⟨ref, n, kf n⟩], 0) := by
  rw [refM, hn]
  simp [hl]
theorem refM_branch {kf : NodeM → Int} {l : List NamedM} {d : Nat} {ref : Int} {n : NodeM} (hn : nodeM l ref = (n, 0)) (hl : n.leaf = false) {j : Nat} (hj : kf n = j) (hk : j < n.kids.length) {st : List StepM} (h : refM kf l d n.kids[j].ref = (st, 0)) :
    refM kf l (d + 1) ref = (⟨ref, n, kf n⟩ :: st, 0) := by
  rw [refM, hn]
  have h0 : ¬ n.kids.length = 0 := by omega
  simp [hl, h0, hj, List.getElem?_eq_getElem hk, h]
theorem Tr_get {l : List NamedM} {d : Nat} {p : PlaceM} {D : Int} {its : List ItemM} (h : Tr l d p D its) : ∀ key, bndM p key = true →
    ∃ st s, refM (pathK key) l d p.ref = (st, 0) ∧ st.getLast? = some s ∧ s.k = bsM s.n.items key ∧ RiseI s.n.items ∧ ∀ x : ItemM, x.key = key → (x ∈ its ↔ x ∈ s.n.items) := by
  induction h with
  | leaf hn hl hk ho he =>
    intro key hb
    exact ⟨_, _, refM_leaf hn hl, rfl, by simp [pathK, hl], List.pairwise_map.1 (ksM_rise ho).1, fun x hx => Iff.rfl⟩
  | @branch d p n D its hn hl hk ho hi h ih =>
    intro key hb
    obtain ⟨j, ej, s1, s2, s3⟩ : ∃ j, sideP n.kids key = j ∧ j ≤ n.kids.length - 1 ∧ (∀ (h : j < n.kids.length), 0 < j → cmpB n.kids[j].key key ≤ 0) ∧ (∀ (i : Nat) (h : i < n.kids.length), j < i → i ≤ n.kids.length - 1 → 0 < cmpB n.kids[i].key key) :=
      ⟨_, rfl, side_spec n.kids key (n.kids.length - 1) (by omega)⟩
    have hj : j < n.kids.length := by omega
    have hp : pathK key n = (j : Nat) := by simp [pathK, hl, ej]
    have hbk : bndM (kidM p n j) key = true := by
      rw [bnd_iff] at hb ⊢
      refine ⟨fun hh => ?_, fun hh => ?_⟩
      · by_cases h0 : 0 < j
        · rw [(kid_low (p := p) hj h0).2]
          exact s2 hj h0
        · have : j = 0 := by omega
          subst this
          rw [kid_low0.2]
          exact hb.1 (by rwa [kid_low0.1] at hh)
      · by_cases h0 : j + 1 < n.kids.length
        · rw [(kid_high (p := p) h0).2]
          exact cmpB_gt.2 (s3 (j + 1) h0 (by omega) (by omega))
        · rw [(kid_high0 (p := p) h0).2]
          exact hb.2 (by rwa [(kid_high0 (p := p) h0).1] at hh)
    have hji : j < its.length := by omega
    have ej' := List.getElem?_eq_getElem hji
    obtain ⟨st, s, g1, g2, g3, g4, g5⟩ := ih j _ ej' key hbk
    have er : (kidM p n j).ref = n.kids[j].ref := by simp [kidM, hj]
    rw [er] at g1
    refine ⟨_, s, refM_branch hn hl hp hj g1, ?_, g3, g4, fun x hx => ?_⟩
    · rw [List.getLast?_cons, g2]; rfl
    · rw [← g5 x hx]
      constructor
      · intro hm
        obtain ⟨y, hy, hm⟩ := List.mem_flatten.1 hm
        obtain ⟨i, hi', e⟩ := List.mem_iff_getElem.1 hy
        have e' := List.getElem?_eq_some_iff.2 ⟨hi', e⟩
        have hbx := Tr_bnd (h i y e') x hm
        rw [hx] at hbx
        have irr : ¬ cmpB key key < 0 := by rw [cmpB_refl]; omega
        rcases Nat.lt_trichotomy i j with q | q | q
        · exact absurd (kids_lt ho q hj hbx hbk) irr
        · subst q
          rw [ej'] at e'
          cases e'
          exact hm
        · exact absurd (kids_lt ho q (by omega) hbk hbx) irr
      · intro hm
        exact List.mem_flatten.2 ⟨_, List.getElem_mem hji, hm⟩
/-- Get, of a tree of which All tells no error. -/
theorem get_all {l : List NamedM} {root : Int} (h : (allM l root).2 = 0) (key : Bytes) :
    (∃ x, x ∈ (allM l root).1.items ∧ x.key = key ∧ getM l root key = (x, true, 0)) ∨ ((∀ x ∈ (allM l root).1.items, x.key ≠ key) ∧ getM l root key = (noItem, false, 0)) := by
  have hv : (visitM l 12 (root0 root) w0).1 = 0 := by
    unfold allM at h
    split at h
    · exact h
    · rename_i hh; simpa using hh
  have ha : allM l root = ((visitM l 12 (root0 root) w0).2, 0) := by unfold allM; rw [if_neg (by simpa using hv)]
  obtain ⟨its, h1, h2, _, _⟩ := visit_Tr 12 (root0 root) w0 (Int.le_refl _) hv
  rw [ha]
  simp only
  rw [h1]
  change _ ∨ _
  have hb : bndM (root0 root) key = true := by simp [bndM, root0]
  obtain ⟨st, s, g1, g2, g3, g4, g5⟩ := Tr_get h2 key hb
  have hw : wayM (pathK key) l root = (st, 0) := by rw [wayM_refM]; exact g1
  obtain ⟨c, c1, c2, c3⟩ := cnt_spec key s.n.items (rise_risI g4)
  have hk : s.k = (c : Int) := by rw [g3, bsM_findM _ _ (rise_risI g4), c1]
  have hg : getM l root key = match s.n.items[c]? with
      | some x => if cmpB x.key key = 0 then (x, true, 0) else (noItem, false, 0)
      | none => (noItem, false, 0) := by
    unfold getM
    rw [hw]
    simp only [ne_eq, not_true_eq_false, if_false, g2, hk, Int.toNat_natCast]
    cases s.n.items[c]? <;> rfl
  have hw0 : w0.items = [] := rfl
  rw [hw0, List.nil_append]
  cases hx : s.n.items[c]? with
  | none =>
    rw [hx] at hg
    refine .inr ⟨fun x hxm hxk => ?_, hg⟩
    have hxs := (g5 x hxk).1 hxm
    obtain ⟨i, hi, e⟩ := List.mem_iff_getElem.1 hxs
    have hc : s.n.items.length ≤ c := List.getElem?_eq_none_iff.1 hx
    have := (c3 i hi).1 (by omega)
    rw [e, hxk, cmpB_refl] at this
    omega
  | some x =>
    rw [hx] at hg
    simp only at hg
    obtain ⟨hc, e⟩ := List.getElem?_eq_some_iff.1 hx
    by_cases he : cmpB x.key key = 0
    · rw [if_pos he] at hg
      have hk := cmpB_eq he
      exact .inl ⟨x, (g5 x hk).2 (List.mem_iff_getElem.2 ⟨c, hc, e⟩), hk, hg⟩
    · rw [if_neg he] at hg
      refine .inr ⟨fun y hym hyk => ?_, hg⟩
      obtain ⟨i, hi, ei⟩ := List.mem_iff_getElem.1 ((g5 y hyk).1 hym)
      have h0 : ¬ i < c := fun q => by
        have := (c3 i hi).1 q
        rw [ei, hyk, cmpB_refl] at this
        omega
      have hne : i ≠ c := fun q => by
        subst q
        rw [e] at ei
        subst ei
        rw [hyk, cmpB_refl] at he
        exact he rfl
      have hlt := List.pairwise_iff_getElem.1 g4 c i hc hi (by omega)
      rw [e, ei, hyk] at hlt
      have := (c3 c hc).2 (by rw [e]; exact hlt)
      omega
theorem all_rise {l : List NamedM} {root : Int} (h : (allM l root).2 = 0) : RiseI (allM l root).1.items := by
  have hv : (visitM l 12 (root0 root) w0).1 = 0 := by
    unfold allM at h
    split at h
    · exact h
    · rename_i hh; simpa using hh
  have ha : allM l root = ((visitM l 12 (root0 root) w0).2, 0) := by unfold allM; rw [if_neg (by simpa using hv)]
  obtain ⟨its, h1, h2, _, _⟩ := visit_Tr 12 (root0 root) w0 (Int.le_refl _) hv
  rw [ha]
  simp only
  rw [h1]
  exact Tr_rise h2
end Go.VI

/- VI, part TF: law TreeGets, walked. -/
set_option linter.unusedVariables false
set_option linter.unusedSimpArgs false
set_option maxRecDepth 100000
namespace Go.VI
attribute [local congr] AW_congr OW_congr DW_congr NW_congr VW_congr GW_congr PW_congr KW_congr ite_congr' GV_congr CV_congr

theorem k24 {l : List NamedM} (hl : okL l) (ht : tinyL l) {root : Int} {key : Bytes} (hk : okB key) {K : Heap} {L : List Blk} {Q : AV → Heap → Prop} :
    KW ft (.fn (.func 24) [] []) [srcF l, int root, encB key] (hx K L) Q ↔ Q (.tup [.agg (itemC (getM l root key).1), boolA (getM l root key).2.1, int (getM l root key).2.2]) (hx K L) := KW_of (s24 l hl ht root key hk _)
theorem get_own {l : List NamedM} {root : Int} (h : (allM l root).2 = 0) {x : ItemM} (hx : x ∈ (allM l root).1.items) : getM l root x.key = (x, true, 0) := by
  rcases get_all h x.key with ⟨y, hy, e, hg⟩ | ⟨hn, _⟩
  · rw [hg, rise_one (all_rise h) hy hx e]
  · exact absurd rfl (hn x hx)
theorem l5 (l : List NamedM) (hl : okL l) (ht : tinyL l) (root : Int) (key : Bytes) (hk : okB key) (w : WM) (hits : ∀ x ∈ w.items, okIt x) (hn : w.items.length ≤ 1000000) (hg : ∀ x ∈ w.items, getM l root x.key = (x, true, 0)) {L0 : List Blk}
   {Q : AExit → Env → Heap → Prop} (a10 a11 : AV)
   (hex : ∀ f' K, f' 9 = .ptr 1 0 0 → f' 10 = a10 → f' 11 = a11 → f' 12 = boolA (w.items.any fun x => cmpB x.key key == 0) → (∀ j b, L0[j]? = some (.box false b) → K.get j = some (.box false b)) → Q (.exit 0) (mkE 109 f') (hx K [])) :
   ∀ (d i : Nat) (has : Bool) (K : Heap) (f : Nat → AV), i + d = w.items.length → (w.items.any fun x => cmpB x.key key == 0) = (has || (w.items.drop i).any fun x => cmpB x.key key == 0) → (∀ j b, L0[j]? = some (.box false b) → K.get j = some (.box false b)) →
    f 0 = encL l → f 1 = int root → f 2 = encB key → f 9 = .ptr 1 0 0 → f 10 = a10 → f 11 = a11 → f 12 = boolA has → f 53 = encI w.items → f 54 = int w.items.length → f 55 = int i →
    AW ft (.loop c5L0) (mkE 109 f) (hx K []) Q := by
  intro d
  induction d with
  | zero =>
    intro i has K f hd hh hK h0 h1 h2 h9 h10 h11 h12 h53 h54 h55
    have g : ((i : Int) < w.items.length) = False := eq_false (by omega)
    rw [AW_loop]
    unfold c5L0
    rw [List.drop_eq_nil_of_le (by omega), List.any_nil, Bool.or_false] at hh
    simp only [↓vp, vq0, vq1, vq2, vq3, vr0, vr1, vr2, vr3, vr4, vr5, vr6, vr7, vr8, vr9, vr10, vr11, vr12, vr13, vr14, vr15, vr16, vr17, vr18, vr19, vr20, vr21, vr22, vr23, vr24, vr25, vr26, vr27, vr28, vr29, vr30, vr31, vr32, vr33, vr34, opS, fpS, okP, pack, nAl, allocA, shId, leaves, fillA, fillR, splice, Nat.reduceLT, Nat.reduceEqDiff, Nat.reduceLeDiff, Nat.reduceAdd, Nat.reduceSub, Nat.reduceMul, Int.reduceBEq, Int.reduceBNe, Int.reduceLT, Int.reduceLE, Int.reduceEq, reduceIte, reduceCtorEq, da, int, boolA, h54, h55, g]
    refine hex _ _ ?_ ?_ ?_ ?_ hK <;> simp only [↓vp, vq0, vq1, vq2, vq3, vr0, vr1, vr2, vr3, vr4, vr5, vr6, vr7, vr8, vr9, vr10, vr11, vr12, vr13, vr14, vr15, vr16, vr17, vr18, vr19, vr20, vr21, vr22, vr23, vr24, vr25, vr26, vr27, vr28, vr29, vr30, vr31, vr32, vr33, vr34, opS, fpS, okP, pack, nAl, allocA, shId, leaves, fillA, fillR, splice, Nat.reduceLT, Nat.reduceEqDiff, Nat.reduceLeDiff, Nat.reduceAdd, Nat.reduceSub, Nat.reduceMul, Int.reduceBEq, Int.reduceBNe, Int.reduceLT, Int.reduceLE, Int.reduceEq, reduceIte, reduceCtorEq, da, int, boolA, h9, h10, h11, h12, hh]
  | succ d ih =>
    intro i has K f hd hh hK h0 h1 h2 h9 h10 h11 h12 h53 h54 h55
    have g : ((i : Int) < w.items.length) = True := eq_true (by omega)
    have gi : i < w.items.length := by omega
    have w1 := wrap_succ (show i < 9223372036854775807 by omega)
    have hi := hits _ (List.getElem_mem gi)
    have hik := hi.k
    have hgi := hg _ (List.getElem_mem gi)
    have x24 := fun K L Q => k24 hl ht (root := root) hik (K := K) (L := L) (Q := Q)
    rw [hgi] at x24
    have p17 : pureV ft (.fn (.func 17) [] []) [encL l] = true := rfl
    have p24 : pureV ft (.fn (.func 24) [] []) [srcF l, .sc (.int .i64 root), encB w.items[i].key] = true := rfl
    rw [List.drop_eq_getElem_cons gi, List.any_cons] at hh
    have cont : ∀ (f : Nat → AV) (L : List Blk), f 0 = encL l → f 1 = int root → f 2 = encB key → f 9 = .ptr 1 0 0 → f 10 = a10 → f 11 = a11 → f 12 = boolA (has || cmpB w.items[i].key key == 0) → f 53 = encI w.items → f 54 = int w.items.length → f 55 = int (i + 1 : Nat) →
        AW ft (.loop c5L0) (mkE 109 f) (hx K L) Q := fun f L q0 q1 q2 q9 q10 q11 q12 q53 q54 q55 => by
      rw [← hx_nil (hx K L)]
      exact ih (i + 1) _ (hx K L) f (by omega) (by rw [hh, Bool.or_assoc]) (fun j b hj => get_old (hK j b hj) L) q0 q1 q2 q9 q10 q11 q12 q53 q54 q55
    simp only [int, boolA] at x24
    rw [AW_loop]
    unfold c5L0
    cases has with
    | true =>
      simp only [↓vp, vq0, vq1, vq2, vq3, vr0, vr1, vr2, vr3, vr4, vr5, vr6, vr7, vr8, vr9, vr10, vr11, vr12, vr13, vr14, vr15, vr16, vr17, vr18, vr19, vr20, vr21, vr22, vr23, vr24, vr25, vr26, vr27, vr28, vr29, vr30, vr31, vr32, vr33, vr34, opS, fpS, okP, pack, nAl, allocA, shId, leaves, fillA, fillR, splice, Nat.reduceLT, Nat.reduceEqDiff, Nat.reduceLeDiff, Nat.reduceAdd, Nat.reduceSub, Nat.reduceMul, Int.reduceBEq, Int.reduceBNe, Int.reduceLT, Int.reduceLE, Int.reduceEq, reduceIte, reduceCtorEq, da, int, boolA, h0, h1, h2, h53, h54, h55, h12, g, atI gi, cI gi, k17, x24, p17, p24, k23, hi, sameI_refl, w1, bne_self_eq_false]
      refine cont _ _ ?_ ?_ ?_ ?_ ?_ ?_ ?_ ?_ ?_ ?_ <;> simp only [↓vp, vq0, vq1, vq2, vq3, vr0, vr1, vr2, vr3, vr4, vr5, vr6, vr7, vr8, vr9, vr10, vr11, vr12, vr13, vr14, vr15, vr16, vr17, vr18, vr19, vr20, vr21, vr22, vr23, vr24, vr25, vr26, vr27, vr28, vr29, vr30, vr31, vr32, vr33, vr34, opS, fpS, okP, pack, nAl, allocA, shId, leaves, fillA, fillR, splice, Nat.reduceLT, Nat.reduceEqDiff, Nat.reduceLeDiff, Nat.reduceAdd, Nat.reduceSub, Nat.reduceMul, Int.reduceBEq, Int.reduceBNe, Int.reduceLT, Int.reduceLE, Int.reduceEq, reduceIte, reduceCtorEq, da, int, boolA, h0, h1, h2, h9, h10, h11, h53, h54, Bool.true_or]
    | false =>
      simp only [↓vp, vq0, vq1, vq2, vq3, vr0, vr1, vr2, vr3, vr4, vr5, vr6, vr7, vr8, vr9, vr10, vr11, vr12, vr13, vr14, vr15, vr16, vr17, vr18, vr19, vr20, vr21, vr22, vr23, vr24, vr25, vr26, vr27, vr28, vr29, vr30, vr31, vr32, vr33, vr34, opS, fpS, okP, pack, nAl, allocA, shId, leaves, fillA, fillR, splice, Nat.reduceLT, Nat.reduceEqDiff, Nat.reduceLeDiff, Nat.reduceAdd, Nat.reduceSub, Nat.reduceMul, Int.reduceBEq, Int.reduceBNe, Int.reduceLT, Int.reduceLE, Int.reduceEq, reduceIte, reduceCtorEq, da, int, boolA, h0, h1, h2, h53, h54, h55, h12, g, atI gi, cI gi, k17, x24, p17, p24, k23, k25, hi, hik, hk, sameI_refl, w1, bne_self_eq_false]
      refine cont _ _ ?_ ?_ ?_ ?_ ?_ ?_ ?_ ?_ ?_ ?_ <;> simp only [↓vp, vq0, vq1, vq2, vq3, vr0, vr1, vr2, vr3, vr4, vr5, vr6, vr7, vr8, vr9, vr10, vr11, vr12, vr13, vr14, vr15, vr16, vr17, vr18, vr19, vr20, vr21, vr22, vr23, vr24, vr25, vr26, vr27, vr28, vr29, vr30, vr31, vr32, vr33, vr34, opS, fpS, okP, pack, nAl, allocA, shId, leaves, fillA, fillR, splice, Nat.reduceLT, Nat.reduceEqDiff, Nat.reduceLeDiff, Nat.reduceAdd, Nat.reduceSub, Nat.reduceMul, Int.reduceBEq, Int.reduceBNe, Int.reduceLT, Int.reduceLE, Int.reduceEq, reduceIte, reduceCtorEq, da, int, boolA, h0, h1, h2, h9, h10, h11, h53, h54, Bool.false_or]
theorem s5 (l : List NamedM) (hl : okL l) (root : Int) (key : Bytes) (hk : okB key) (H : Heap) : callL ft (.fn (.func 5) [] []) [encL l, int root, encB key] H = some (boolA true, H) := by
  refine call_p (as' := [encL l, int root, encB key]) rfl rfl (by simp) ?_
  have ha' := fun K L Q => alive14 K L Q
  unfold c5 r5
  cases e1 : fewM l with
  | false => simp only [↓vp, vq0, vq1, vq2, vq3, vr0, vr1, vr2, vr3, vr4, vr5, vr6, vr7, vr8, vr9, vr10, vr11, vr12, vr13, vr14, vr15, vr16, vr17, vr18, vr19, vr20, vr21, vr22, vr23, vr24, vr25, vr26, vr27, vr28, vr29, vr30, vr31, vr32, vr33, vr34, opS, fpS, okP, pack, nAl, allocA, shId, leaves, fillA, fillR, splice, Nat.reduceLT, Nat.reduceEqDiff, Nat.reduceLeDiff, Nat.reduceAdd, Nat.reduceSub, Nat.reduceMul, Int.reduceBEq, Int.reduceBNe, Int.reduceLT, Int.reduceLE, Int.reduceEq, reduceIte, reduceCtorEq, da, int, boolA, RetP_go, resT, resC, resN, retV1, retV2, retV3, retV0, frzFZ, takeM, Option.some.injEq, k13, hl, e1, ha' _ _ _]
  | true =>
    have ht := few_tiny hl e1
    have hlen := few_len e1
    cases e2 : decide ((100 : Int) < key.length) with
    | true => simp only [↓vp, vq0, vq1, vq2, vq3, vr0, vr1, vr2, vr3, vr4, vr5, vr6, vr7, vr8, vr9, vr10, vr11, vr12, vr13, vr14, vr15, vr16, vr17, vr18, vr19, vr20, vr21, vr22, vr23, vr24, vr25, vr26, vr27, vr28, vr29, vr30, vr31, vr32, vr33, vr34, opS, fpS, okP, pack, nAl, allocA, shId, leaves, fillA, fillR, splice, Nat.reduceLT, Nat.reduceEqDiff, Nat.reduceLeDiff, Nat.reduceAdd, Nat.reduceSub, Nat.reduceMul, Int.reduceBEq, Int.reduceBNe, Int.reduceLT, Int.reduceLE, Int.reduceEq, reduceIte, reduceCtorEq, da, int, boolA, RetP_go, resT, resC, resN, retV1, retV2, retV3, retV0, frzFZ, takeM, Option.some.injEq, k13, hl, e1, e2, ha' _ _ _]
    | false =>
      have x21 := fun K L Q => k21 hl ht hlen (root := root) (K := K) (L := L) (Q := Q)
      have hits := its_all hl root
      have hw := okW_all ht root
      have hle := hw.le
      have hln := hw.len
      have hown := fun (h : (allM l root).2 = 0) x hx => get_own h (x := x) hx
      have hget := fun (h : (allM l root).2 = 0) => get_all h key
      have hbad : (allM l root).2 ≠ 0 → (allM l root).1.items = [] := fun h => by
        unfold allM at h ⊢
        split
        · rfl
        · rename_i hh; rw [if_neg hh] at h; exact absurd rfl h
      have x24 := fun K L Q => k24 hl ht (root := root) hk (K := K) (L := L) (Q := Q)
      generalize allM l root = A at *
      obtain ⟨w, no⟩ := A
      simp only at hits hw hle hln hown hget hbad
      have a0 : (wholeC w).take 1 = [encI w.items] := rfl
      have al : (wholeC w).length = 3 := rfl
      have ao : oneAll (wholeC w) = true := rfl
      have ad : (wholeC w).drop 3 = [] := rfl
      simp only [int, boolA] at x21 x24
      cases e3 : (no != 0) with
      | true =>
        have hb := hbad (by simpa using e3)
        have hz : (w.items.length : Int) = 0 := by rw [hb]; rfl
        simp only [↓vp, vq0, vq1, vq2, vq3, vr0, vr1, vr2, vr3, vr4, vr5, vr6, vr7, vr8, vr9, vr10, vr11, vr12, vr13, vr14, vr15, vr16, vr17, vr18, vr19, vr20, vr21, vr22, vr23, vr24, vr25, vr26, vr27, vr28, vr29, vr30, vr31, vr32, vr33, vr34, opS, fpS, okP, pack, nAl, allocA, shId, leaves, fillA, fillR, splice, Nat.reduceLT, Nat.reduceEqDiff, Nat.reduceLeDiff, Nat.reduceAdd, Nat.reduceSub, Nat.reduceMul, Int.reduceBEq, Int.reduceBNe, Int.reduceLT, Int.reduceLE, Int.reduceEq, reduceIte, reduceCtorEq, da, int, boolA, RetP_go, resT, resC, resN, retV1, retV2, retV3, retV0, frzFZ, takeM, Option.some.injEq, k13, hl, e1, e2, e3, k17, x21, a0, al, ao, ad, ha' _ _ _, hz]
      | false =>
        have hno : no = 0 := by simpa using e3
        simp only [↓vp, vq0, vq1, vq2, vq3, vr0, vr1, vr2, vr3, vr4, vr5, vr6, vr7, vr8, vr9, vr10, vr11, vr12, vr13, vr14, vr15, vr16, vr17, vr18, vr19, vr20, vr21, vr22, vr23, vr24, vr25, vr26, vr27, vr28, vr29, vr30, vr31, vr32, vr33, vr34, opS, fpS, okP, pack, nAl, allocA, shId, leaves, fillA, fillR, splice, Nat.reduceLT, Nat.reduceEqDiff, Nat.reduceLeDiff, Nat.reduceAdd, Nat.reduceSub, Nat.reduceMul, Int.reduceBEq, Int.reduceBNe, Int.reduceLT, Int.reduceLE, Int.reduceEq, reduceIte, reduceCtorEq, da, int, boolA, k13, hl, e1, e2, e3, k17, x21, x24, a0, al, ao, ad]
        rw [← hx_nil (hx _ _)]
        refine l5 l hl ht root key hk w hits (by omega) (hown hno) (L0 := [.box false (wholeC w), .box false (itemC (getM l root key).1)]) (boolA (getM l root key).2.1) (int (getM l root key).2.2) (fun f' K q9 q10 q11 q12 hK => ?_) w.items.length 0 false _ _ (by simp) (by simp) ?_ ?_ ?_ ?_ ?_ ?_ ?_ ?_ ?_ ?_ ?_
        · have o1 := get_old (hK 1 _ rfl)
          unfold c5R1
          rcases hget hno with ⟨x, hx_, hxk, hg⟩ | ⟨hn, hg⟩
          · rw [hg] at q10 q11 o1
            have ha : (w.items.any fun x => cmpB x.key key == 0) = true := List.any_eq_true.2 ⟨x, hx_, by rw [hxk, cmpB_refl]; rfl⟩
            rw [ha] at q12
            simp only [↓vp, vq0, vq1, vq2, vq3, vr0, vr1, vr2, vr3, vr4, vr5, vr6, vr7, vr8, vr9, vr10, vr11, vr12, vr13, vr14, vr15, vr16, vr17, vr18, vr19, vr20, vr21, vr22, vr23, vr24, vr25, vr26, vr27, vr28, vr29, vr30, vr31, vr32, vr33, vr34, opS, fpS, okP, pack, nAl, allocA, shId, leaves, fillA, fillR, splice, Nat.reduceLT, Nat.reduceEqDiff, Nat.reduceLeDiff, Nat.reduceAdd, Nat.reduceSub, Nat.reduceMul, Int.reduceBEq, Int.reduceBNe, Int.reduceLT, Int.reduceLE, Int.reduceEq, reduceIte, reduceCtorEq, da, int, boolA, RetP_go, resT, resC, resN, retV1, retV2, retV3, retV0, frzFZ, takeM, Option.some.injEq, q9, q10, q11, q12, o1, ha' _ _ _]
          · rw [hg] at q10 q11 o1
            have ha : (w.items.any fun x => cmpB x.key key == 0) = false := List.any_eq_false.2 fun x hx_ => by
              have := hn x hx_
              intro hh
              exact this (cmpB_eq (by simpa using hh))
            rw [ha] at q12
            have z : (encB noItem.key) = encB [] := rfl
            simp only [↓vp, vq0, vq1, vq2, vq3, vr0, vr1, vr2, vr3, vr4, vr5, vr6, vr7, vr8, vr9, vr10, vr11, vr12, vr13, vr14, vr15, vr16, vr17, vr18, vr19, vr20, vr21, vr22, vr23, vr24, vr25, vr26, vr27, vr28, vr29, vr30, vr31, vr32, vr33, vr34, opS, fpS, okP, pack, nAl, allocA, shId, leaves, fillA, fillR, splice, Nat.reduceLT, Nat.reduceEqDiff, Nat.reduceLeDiff, Nat.reduceAdd, Nat.reduceSub, Nat.reduceMul, Int.reduceBEq, Int.reduceBNe, Int.reduceLT, Int.reduceLE, Int.reduceEq, reduceIte, reduceCtorEq, da, int, boolA, RetP_go, resT, resC, resN, retV1, retV2, retV3, retV0, frzFZ, takeM, Option.some.injEq, q9, q10, q11, q12, o1, ha' _ _ _, z]
            rfl
        · intro j b hj
          rw [hxe_get]
          exact hj
        all_goals first | rfl | (simp only [↓vp, vq0, vq1, vq2, vq3, vr0, vr1, vr2, vr3, vr4, vr5, vr6, vr7, vr8, vr9, vr10, vr11, vr12, vr13, vr14, vr15, vr16, vr17, vr18, vr19, vr20, vr21, vr22, vr23, vr24, vr25, vr26, vr27, vr28, vr29, vr30, vr31, vr32, vr33, vr34, opS, fpS, okP, pack, nAl, allocA, shId, leaves, fillA, fillR, splice, Nat.reduceLT, Nat.reduceEqDiff, Nat.reduceLeDiff, Nat.reduceAdd, Nat.reduceSub, Nat.reduceMul, Int.reduceBEq, Int.reduceBNe, Int.reduceLT, Int.reduceLE, Int.reduceEq, reduceIte, reduceCtorEq, da, int, boolA]; done)
end Go.VI

/- VI, part TG: law TreeEdges. -/
set_option linter.unusedVariables false
set_option linter.unusedSimpArgs false
set_option maxRecDepth 100000
namespace Go.VI
attribute [local congr] AW_congr OW_congr DW_congr NW_congr VW_congr GW_congr PW_congr KW_congr ite_congr' GV_congr CV_congr

theorem Tr_first {l : List NamedM} {d : Nat} {p : PlaceM} {D : Int} {its : List ItemM} (h : Tr l d p D its) : 1 ≤ p.deep →
    ∃ st s rest, refM (edgeK false) l d p.ref = (st, 0) ∧ st.getLast? = some s ∧ s.k = 0 ∧ its = s.n.items ++ rest ∧ (st.length : Int) = D - p.deep + 1 ∧ ((p.deep = 1 → its ≠ []) → s.n.items ≠ []) := by
  induction h with
  | leaf hn hl hk ho he =>
    intro h1
    refine ⟨_, _, [], refM_leaf hn hl, rfl, rfl, by simp, by simp, fun h => ?_⟩
    rcases he with he | he
    · exact h he
    · exact he
  | @branch d p n D its hn hl hk ho hi h ih =>
    intro h1
    have h0 : 0 < its.length := by omega
    obtain ⟨st, s, rest, g1, g2, g3, g4, g5, g6⟩ := ih 0 _ (List.getElem?_eq_getElem h0) (by show 1 ≤ p.deep + 1; omega)
    have er : (kidM p n 0).ref = n.kids[0].ref := by simp [kidM, show 0 < n.kids.length by omega]
    have ed : (kidM p n 0).deep = p.deep + 1 := rfl
    rw [er] at g1
    rw [ed] at g5 g6
    refine ⟨_, s, rest ++ (its.drop 1).flatten, refM_branch (j := 0) hn hl (by simp [edgeK]) (by omega) g1, by rw [List.getLast?_cons, g2]; rfl, g3, ?_, by simp; omega, fun _ => g6 (fun e => by omega)⟩
    have e : its = its[0] :: its.drop 1 := by
      rw [← List.drop_eq_getElem_cons h0]; rfl
    rw [e, List.flatten_cons, g4, List.append_assoc]
    simp
theorem Tr_last {l : List NamedM} {d : Nat} {p : PlaceM} {D : Int} {its : List ItemM} (h : Tr l d p D its) : 1 ≤ p.deep →
    ∃ st s pre, refM (edgeK true) l d p.ref = (st, 0) ∧ st.getLast? = some s ∧ s.k = edgeK true s.n ∧ s.n.leaf = true ∧ its = pre ++ s.n.items ∧ (st.length : Int) = D - p.deep + 1 ∧ ((p.deep = 1 → its ≠ []) → s.n.items ≠ []) := by
  induction h with
  | leaf hn hl hk ho he =>
    intro h1
    refine ⟨_, _, [], refM_leaf hn hl, rfl, rfl, hl, by simp, by simp, fun h => ?_⟩
    rcases he with he | he
    · exact h he
    · exact he
  | @branch d p n D its hn hl hk ho hi h ih =>
    intro h1
    have h0 : n.kids.length - 1 < its.length := by omega
    obtain ⟨st, s, pre, g1, g2, g3, g3', g4, g5, g6⟩ := ih (n.kids.length - 1) _ (List.getElem?_eq_getElem h0) (by show 1 ≤ p.deep + 1; omega)
    have er : (kidM p n (n.kids.length - 1)).ref = n.kids[n.kids.length - 1].ref := by simp [kidM, show n.kids.length - 1 < n.kids.length by omega]
    have ed : (kidM p n (n.kids.length - 1)).deep = p.deep + 1 := rfl
    rw [er] at g1
    rw [ed] at g5 g6
    refine ⟨_, s, (its.take (n.kids.length - 1)).flatten ++ pre, refM_branch (j := n.kids.length - 1) hn hl (by simp [edgeK, hl]; omega) (by omega) g1, by rw [List.getLast?_cons, g2]; rfl, g3, g3', ?_, by simp; omega, fun _ => g6 (fun e => by omega)⟩
    have e : its = its.take (n.kids.length - 1) ++ [its[n.kids.length - 1]] := by
      rw [← List.take_succ_eq_append_getElem h0, List.take_of_length_le (by omega)]
    have e' : its.flatten = (its.take (n.kids.length - 1)).flatten ++ its[n.kids.length - 1] := by
      conv => lhs; rw [e]
      rw [List.flatten_append]; simp
    rw [e', g4, List.append_assoc]
theorem all_Tr {l : List NamedM} {root : Int} (h : (allM l root).2 = 0) : Tr l 12 (root0 root) (allM l root).1.depth (allM l root).1.items := by
  have hv : (visitM l 12 (root0 root) w0).1 = 0 := by
    unfold allM at h
    split at h
    · exact h
    · rename_i hh; simpa using hh
  have ha : allM l root = ((visitM l 12 (root0 root) w0).2, 0) := by unfold allM; rw [if_neg (by simpa using hv)]
  obtain ⟨its, h1, h2, _, _⟩ := visit_Tr 12 (root0 root) w0 (Int.le_refl _) hv
  rw [ha]
  simp only
  rw [h1]
  exact h2
theorem last_at {α : Type} {l : List α} {x : α} (h : l.getLast? = some x) : ∃ h : l.length - 1 < l.length, l[l.length - 1] = x := by
  rw [List.getLast?_eq_getElem?] at h
  exact List.getElem?_eq_some_iff.1 h
theorem s7 (l : List NamedM) (hl : okL l) (root : Int) (H : Heap) : callL ft (.fn (.func 7) [] []) [encL l, int root] H = some (boolA true, H) := by
  refine call_p (as' := [encL l, int root]) rfl rfl (by simp) ?_
  have ha' := fun K L Q => alive14 K L Q
  unfold c7 r7
  cases e1 : fewM l with
  | false => simp only [↓vp, vq0, vq1, vq2, vq3, vr0, vr1, vr2, vr3, vr4, vr5, vr6, vr7, vr8, vr9, vr10, vr11, vr12, vr13, vr14, vr15, vr16, vr17, vr18, vr19, vr20, vr21, vr22, vr23, vr24, vr25, vr26, vr27, vr28, vr29, vr30, vr31, vr32, vr33, vr34, opS, fpS, okP, pack, nAl, allocA, shId, leaves, fillA, fillR, splice, Nat.reduceLT, Nat.reduceEqDiff, Nat.reduceLeDiff, Nat.reduceAdd, Nat.reduceSub, Nat.reduceMul, Int.reduceBEq, Int.reduceBNe, Int.reduceLT, Int.reduceLE, Int.reduceEq, reduceIte, reduceCtorEq, da, int, boolA, RetP_go, resT, resC, resN, retV1, retV2, retV3, retV0, frzFZ, takeM, Option.some.injEq, k13, hl, e1, ha' _ _ _]
  | true =>
    have ht := few_tiny hl e1
    have hlen := few_len e1
    have x21 := fun K L Q => k21 hl ht hlen (root := root) (K := K) (L := L) (Q := Q)
    have hits := its_all hl root
    have hw := okW_all ht root
    have hle := hw.le
    have hln := hw.len
    have hT := fun (h : (allM l root).2 = 0) => all_Tr h
    generalize allM l root = A at *
    obtain ⟨w, no⟩ := A
    simp only at hits hw hle hln hT
    have a0 : (wholeC w).take 1 = [encI w.items] := rfl
    have al : (wholeC w).length = 3 := rfl
    have ao : oneAll (wholeC w) = true := rfl
    have ad : (wholeC w).drop 3 = [] := rfl
    simp only [int, boolA] at x21
    cases e3 : (no != 0) with
    | true => simp only [↓vp, vq0, vq1, vq2, vq3, vr0, vr1, vr2, vr3, vr4, vr5, vr6, vr7, vr8, vr9, vr10, vr11, vr12, vr13, vr14, vr15, vr16, vr17, vr18, vr19, vr20, vr21, vr22, vr23, vr24, vr25, vr26, vr27, vr28, vr29, vr30, vr31, vr32, vr33, vr34, opS, fpS, okP, pack, nAl, allocA, shId, leaves, fillA, fillR, splice, Nat.reduceLT, Nat.reduceEqDiff, Nat.reduceLeDiff, Nat.reduceAdd, Nat.reduceSub, Nat.reduceMul, Int.reduceBEq, Int.reduceBNe, Int.reduceLT, Int.reduceLE, Int.reduceEq, reduceIte, reduceCtorEq, da, int, boolA, RetP_go, resT, resC, resN, retV1, retV2, retV3, retV0, frzFZ, takeM, Option.some.injEq, k13, hl, e1, e3, k17, x21, a0, al, ao, ad, ha' _ _ _]
    | false =>
      have hno : no = 0 := by simpa using e3
      cases e4 : ((w.items.length : Int) == 0) with
      | true => simp only [↓vp, vq0, vq1, vq2, vq3, vr0, vr1, vr2, vr3, vr4, vr5, vr6, vr7, vr8, vr9, vr10, vr11, vr12, vr13, vr14, vr15, vr16, vr17, vr18, vr19, vr20, vr21, vr22, vr23, vr24, vr25, vr26, vr27, vr28, vr29, vr30, vr31, vr32, vr33, vr34, opS, fpS, okP, pack, nAl, allocA, shId, leaves, fillA, fillR, splice, Nat.reduceLT, Nat.reduceEqDiff, Nat.reduceLeDiff, Nat.reduceAdd, Nat.reduceSub, Nat.reduceMul, Int.reduceBEq, Int.reduceBNe, Int.reduceLT, Int.reduceLE, Int.reduceEq, reduceIte, reduceCtorEq, da, int, boolA, RetP_go, resT, resC, resN, retV1, retV2, retV3, retV0, frzFZ, takeM, Option.some.injEq, k13, hl, e1, e3, e4, k17, x21, a0, al, ao, ad, ha' _ _ _]
      | false =>
        have hne : w.items ≠ [] := fun h => by rw [h] at e4; simp at e4
        obtain ⟨st1, s1, rest, f1, f2, f3, f4, f5, f6⟩ := Tr_first (hT hno) (Int.le_refl _)
        obtain ⟨st2, s2, pre, g1, g2, g3, g3', g4, g5, g6⟩ := Tr_last (hT hno) (Int.le_refl _)
        have dr : (root0 root).deep = 1 := rfl
        rw [dr] at f5 g5
        have f6 := f6 (fun _ => hne)
        have g6 := g6 (fun _ => hne)
        have way1 : wayM (edgeK false) l root = (st1, 0) := by rw [wayM_refM]; exact f1
        have way2 : wayM (edgeK true) l root = (st2, 0) := by rw [wayM_refM]; exact g1
        have x19a := fun K L Q => k19 hl ht (root := root) (last := false) (K := K) (L := L) (Q := Q)
        have x19b := fun K L Q => k19 hl ht (root := root) (last := true) (K := K) (L := L) (Q := Q)
        rw [way1] at x19a
        rw [way2] at x19b
        have l1 := wayM_len (edgeK false) hl ht root
        have l2 := wayM_len (edgeK true) hl ht root
        rw [way1] at l1
        rw [way2] at l2
        simp only at l1 l2
        obtain ⟨b1, c1⟩ := last_at f2
        obtain ⟨b2, c2⟩ := last_at g2
        have hd1 : w.depth = (st1.length : Int) := by omega
        have hd2 : (st2.length : Int) = (st1.length : Int) := by omega
        have hd3 : st2.length - 1 = st1.length - 1 := by omega
        have a2 : ((wholeC w).drop 2).take 1 = [int st1.length] := by
          show [int w.depth] = _
          rw [hd1]
        have wp : IntKind.i64.wrap ((st1.length : Int) - 1) = ((st1.length - 1 : Nat) : Int) := by
          rw [wrap_i64 (by omega)]; omega
        have hlt : ((st1.length : Int) < 1) = False := eq_false (by omega)
        have i1 : 0 < s1.n.items.length := List.length_pos_iff.2 f6
        have i2 : 0 < s2.n.items.length := List.length_pos_iff.2 g6
        have k1 : s1.k = ((0 : Nat) : Int) := f3
        have k2 : s2.k = ((s2.n.items.length - 1 : Nat) : Int) := by
          rw [g3]
          simp only [edgeK, g3', if_true]
          rw [if_neg (by omega)]
          omega
        have iw : 0 < w.items.length := List.length_pos_iff.2 hne
        have q1 : s1.n.items[0] = w.items[0] := by
          have : ∀ (h : 0 < (s1.n.items ++ rest).length), (s1.n.items ++ rest)[0] = s1.n.items[0] := fun h => List.getElem_append_left i1
          simp only [f4]
          exact (this _).symm
        have q2 : s2.n.items[s2.n.items.length - 1] = w.items[w.items.length - 1] := by
          have hL : w.items.length = pre.length + s2.n.items.length := by rw [g4, List.length_append]
          have : w.items[w.items.length - 1]? = s2.n.items[s2.n.items.length - 1]? := by
            rw [hL, g4, List.getElem?_append_right (by omega)]
            congr 1
            omega
          rw [List.getElem?_eq_getElem (by omega), List.getElem?_eq_getElem (by omega)] at this
          exact (Option.some.inj this).symm
        have ok1 := hits _ (List.getElem_mem iw)
        have ok2 := hits _ (List.getElem_mem (show w.items.length - 1 < w.items.length by omega))
        have wq : IntKind.i64.wrap ((w.items.length : Int) - 1) = ((w.items.length - 1 : Nat) : Int) := by
          rw [wrap_i64 (by omega)]; omega
        have n1 : ((s1.n.items.length : Int) ≤ ((0 : Nat) : Int)) = False := eq_false (by omega)
        have n2 : ((s2.n.items.length : Int) ≤ ((s2.n.items.length - 1 : Nat) : Int)) = False := eq_false (by omega)
        have y1 := fun H => atS (H := H) b1
        have y2 := fun H => atS (H := H) b2
        rw [hd3] at y2
        have z1 := fun H off n => cS (H := H) (off := off) (n := n) b1
        have z2 := fun H off n => cS (H := H) (off := off) (n := n) b2
        rw [c1] at z1
        rw [c2] at z2
        rw [hd3] at z2
        have u1 := fun H => atI (H := H) i1
        have u2 := fun H => atI (H := H) (show s2.n.items.length - 1 < s2.n.items.length by omega)
        have u3 := fun H => atI (H := H) iw
        have u4 := fun H => atI (H := H) (show w.items.length - 1 < w.items.length by omega)
        have v1 := fun H off n => cI (H := H) (off := off) (n := n) i1
        have v2 := fun H off n => cI (H := H) (off := off) (n := n) (show s2.n.items.length - 1 < s2.n.items.length by omega)
        have v3 := fun H off n => cI (H := H) (off := off) (n := n) iw
        have v4 := fun H off n => cI (H := H) (off := off) (n := n) (show w.items.length - 1 < w.items.length by omega)
        rw [q1] at v1
        rw [q2] at v2
        simp only [int, boolA] at x19a x19b a2
        simp only [Int.natCast_zero, Int.ofNat_zero, Int.cast_ofNat_Int] at u1 u3 k1 n1
        clear f1 f2 f4 f5 g1 g2 g4 g5 way1 way2 hT hw
        simp only [↓vp, vq0, vq1, vq2, vq3, vr0, vr1, vr2, vr3, vr4, vr5, vr6, vr7, vr8, vr9, vr10, vr11, vr12, vr13, vr14, vr15, vr16, vr17, vr18, vr19, vr20, vr21, vr22, vr23, vr24, vr25, vr26, vr27, vr28, vr29, vr30, vr31, vr32, vr33, vr34, opS, fpS, okP, pack, nAl, allocA, shId, leaves, fillA, fillR, splice, Nat.reduceLT, Nat.reduceEqDiff, Nat.reduceLeDiff, Nat.reduceAdd, Nat.reduceSub, Nat.reduceMul, Int.reduceBEq, Int.reduceBNe, Int.reduceLT, Int.reduceLE, Int.reduceEq, reduceIte, reduceCtorEq, da, int, boolA, RetP_go, resT, resC, resN, retV1, retV2, retV3, retV0, frzFZ, takeM, Option.some.injEq, k13, hl, e1, e3, e4, k17, x21, x19a, x19b, a0, a2, al, ao, ad, hd2, hlt, wp, y1, y2, z1, z2, k1, k2, n1, n2, u1, u2, u3, u4, v1, v2, v3, v4, wq, k23, ok1, ok2, sameI_refl, bne_self_eq_false, ha' _ _ _]
        first | rfl | exact ⟨rfl, rfl⟩ | exact ⟨rfl, trivial⟩
end Go.VI

