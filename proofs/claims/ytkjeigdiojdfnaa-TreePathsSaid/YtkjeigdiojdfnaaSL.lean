/- VI, part SL: the plain law of the ways: they are the document's. -/
import Derived.Test.YtkjeigdiojdfnaaSK
set_option linter.unusedVariables false
set_option linter.unusedSimpArgs false
namespace Go.VI

theorem downM_refM (kf : NodeM → Int) (l : List NamedM) : ∀ (d : Nat) (ref : Int) (acc : List StepM),
    downM kf l d ref acc = if (refM kf l d ref).2 ≠ 0 then ([], (refM kf l d ref).2) else (acc ++ (refM kf l d ref).1, 0)
  | 0, ref, acc => by simp [downM, refM]
  | d + 1, ref, acc => by
    rw [downM, refM]
    split
    · rename_i h; simp [h]
    · split
      · simp
      · split
        · simp
        · cases hx : (nodeM l ref).1.kids[(kf (nodeM l ref).1).toNat]? with
          | none => simp
          | some x =>
            simp only
            rw [downM_refM kf l d x.ref]
            by_cases h : (refM kf l d x.ref).2 = 0
            · simp [h]
            · simp [h]
theorem refM_err (kf : NodeM → Int) (l : List NamedM) : ∀ (d : Nat) (ref : Int), (refM kf l d ref).2 ≠ 0 → (refM kf l d ref).1 = []
  | 0, ref, _ => rfl
  | d + 1, ref, h => by
    rw [refM] at h ⊢
    split
    · rfl
    · split
      · rfl
      · split
        · simp_all
        · split
          · split
            · rfl
            · simp_all
          · rfl
theorem wayM_refM (kf : NodeM → Int) (l : List NamedM) (root : Int) : wayM kf l root = refM kf l 12 root := by
  rw [wayM, downM_refM]
  split
  · rename_i h
    rw [← refM_err kf l 12 root h]
  · rename_i h
    have h : (refM kf l 12 root).2 = 0 := by simpa using h
    rw [List.nil_append, ← h]
theorem refM_congr {kf kg : NodeM → Int} (l : List NamedM) (h : ∀ x ∈ l, (x.n.leaf = true ∨ x.n.kids.length ≠ 0) → kf x.n = kg x.n) : ∀ (d : Nat) (ref : Int), refM kf l d ref = refM kg l d ref
  | 0, ref => rfl
  | d + 1, ref => by
    rw [refM, refM]
    split
    · rfl
    · rename_i he
      split
      · rfl
      · rename_i hz
        have hn : kf (nodeM l ref).1 = kg (nodeM l ref).1 := by
          cases hf : l.find? (fun x => x.ref == ref) with
          | none => simp [nodeM, hf] at he
          | some x =>
            have hx := List.mem_of_find?_eq_some hf
            have hz' : ¬ (x.n.leaf = false ∧ x.n.kids.length = 0) := by simpa [nodeM, hf] using hz
            simp only [nodeM, hf]
            refine h x hx ?_
            cases hl : x.n.leaf with
            | true => exact .inl rfl
            | false => exact .inr fun h0 => hz' ⟨hl, h0⟩
        rw [hn]
        split
        · rfl
        · split
          · rename_i x _
            rw [refM_congr l h d x.ref]
          · rfl
theorem edge_first (n : NodeM) (key : Bytes) : edgeK false n = refK 1 key n := by simp [edgeK, refK]
theorem edge_last (n : NodeM) (key : Bytes) (h : n.leaf = true ∨ n.kids.length ≠ 0) : edgeK true n = refK 2 key n := by
  have h2 : ¬ ((2 : Int) = 0) := by decide
  simp only [edgeK, refK, manyN, if_neg h2, if_true]
  cases hl : n.leaf with
  | true =>
    by_cases h0 : n.items.length = 0
    · simp [h0]
    · have : 0 < (n.items.length : Int) := by omega
      simp [h0, this]
  | false =>
    have h0 : n.kids.length ≠ 0 := by
      rcases h with h | h
      · rw [hl] at h; cases h
      · exact h
    have : 0 < (n.kids.length : Int) := by omega
    simp [this]
    intro h1
    rw [h1] at h0
    exact absurd rfl h0

/-! ### where keys rise, the two ways to search agree -/
theorem cmpB_refl : ∀ a : Bytes, cmpB a a = 0
  | [] => rfl
  | x :: a => by simp [cmpB, cmpB_refl a]
theorem cmpB_swap : ∀ a b : Bytes, cmpB b a = - cmpB a b
  | [], [] => rfl
  | [], _ :: _ => rfl
  | _ :: _, [] => rfl
  | x :: a, y :: b => by
    simp only [cmpB]
    by_cases h1 : x < y
    · have h2 : ¬ y < x := by omega
      simp [h1, h2]
    · by_cases h2 : y < x
      · simp [h1, h2]
      · simp [h1, h2, cmpB_swap a b]
theorem cmpB_trans : ∀ a b c : Bytes, cmpB a b < 0 → cmpB b c ≤ 0 → cmpB a c < 0
  | [], [], c, h, _ => by simp [cmpB] at h
  | [], _ :: _, [], _, h => by simp [cmpB] at h
  | [], _ :: _, _ :: _, _, _ => by simp [cmpB]
  | _ :: _, [], c, h, _ => by simp [cmpB] at h
  | x :: a, y :: b, [], _, h => by simp [cmpB] at h
  | x :: a, y :: b, z :: c, h, k => by
    simp only [cmpB] at h k ⊢
    by_cases h1 : x < y
    · by_cases h2 : y < z
      · rw [if_pos (by omega)]; decide
      · rw [if_neg h2] at k
        by_cases h3 : z < y
        · rw [if_pos h3] at k; exact absurd k (by decide)
        · rw [if_pos (by omega)]; decide
    · rw [if_neg h1] at h
      by_cases h4 : y < x
      · rw [if_pos h4] at h; exact absurd h (by decide)
      · rw [if_neg h4] at h
        by_cases h2 : y < z
        · rw [if_pos (by omega)]; decide
        · rw [if_neg h2] at k
          by_cases h3 : z < y
          · rw [if_pos h3] at k; exact absurd k (by decide)
          · rw [if_neg h3] at k
            rw [if_neg (by omega), if_neg (by omega)]
            exact cmpB_trans a b c h k

theorem sideF_snoc (key : Bytes) (x : KidM) : ∀ (l : List KidM) (i c : Nat), sideF key i c (l ++ [x]) = if cmpB x.key key ≤ 0 then i + l.length else sideF key i c l
  | [], i, c => by simp [sideF]
  | y :: l, i, c => by
    rw [List.cons_append, sideF, sideF_snoc key x l, sideF]
    split
    · simp; omega
    · rfl
theorem sideD_sideF (l : List KidM) (key : Bytes) : ∀ k, k < l.length → sideD l key k = sideF key 1 0 ((l.drop 1).take k)
  | 0, _ => by simp [sideD, sideF]
  | k + 1, h => by
    have hk : k < (l.drop 1).length := by simp; omega
    have hg : (l.drop 1)[k] = l[k + 1] := by simp [Nat.add_comm]
    rw [sideD, List.getElem?_eq_getElem h, Option.elim_some, List.take_succ_eq_append_getElem hk, sideF_snoc, hg, sideD_sideF l key k (by omega)]
    have hl : ((l.drop 1).take k).length = k := by simp; omega
    rw [hl]
    by_cases h0 : cmpB l[k + 1].key key ≤ 0
    · rw [if_pos h0, if_neg (by omega)]; omega
    · rw [if_neg h0, if_pos (by omega)]
theorem sideP_sideM (l : List KidM) (key : Bytes) : sideP l key = sideM l key := by
  unfold sideP sideM
  by_cases h : l.length = 0
  · have : l = [] := List.eq_nil_of_length_eq_zero h
    subst this
    rfl
  · rw [sideD_sideF l key _ (by omega), List.take_of_length_le (by simp)]

theorem findM_cons (x : ItemM) (l : List ItemM) (key : Bytes) : (findM (x :: l) key).1 = (if cmpB x.key key < 0 then 1 else 0) + (findM l key).1 := by
  have gen : ∀ (l : List ItemM) (a : Int) (b : Bool), (l.foldl (fun p x => (if cmpB x.key key < 0 then p.1 + 1 else p.1, p.2 || cmpB x.key key == 0)) (a, b)).1 = a + (l.foldl (fun p x => (if cmpB x.key key < 0 then p.1 + 1 else p.1, p.2 || cmpB x.key key == 0)) ((0 : Int), false)).1 := by
    intro l
    induction l with
    | nil => intro a b; simp
    | cons y l ih =>
      intro a b
      simp only [List.foldl_cons]
      rw [ih, ih (if cmpB y.key key < 0 then 0 + 1 else 0)]
      split <;> omega
  unfold findM
  rw [List.foldl_cons, gen]
  split <;> simp
theorem risI_head {x : ItemM} : ∀ {l : List ItemM}, risI (x :: l) = true → ∀ (i : Nat) (h : i < l.length), cmpB x.key l[i].key < 0
  | [], _, i, h => by simp at h
  | y :: l, hr, i, h => by
    simp only [risI, Bool.and_eq_true, decide_eq_true_eq] at hr
    cases i with
    | zero => exact hr.1
    | succ i =>
      have := risI_head (x := y) (l := l) hr.2 i (by simpa using h)
      exact cmpB_trans _ _ _ hr.1 (by simpa using Int.le_of_lt this)
theorem risI_tail {x : ItemM} {l : List ItemM} (h : risI (x :: l) = true) : risI l = true := by
  cases l with
  | nil => rfl
  | cons y l =>
    simp only [risI, Bool.and_eq_true] at h
    exact h.2
/-- How many are below: a beginning. -/
theorem cnt_spec (key : Bytes) : ∀ (l : List ItemM), risI l = true → ∃ c : Nat, (findM l key).1 = c ∧ c ≤ l.length ∧ ∀ (i : Nat) (h : i < l.length), i < c ↔ cmpB l[i].key key < 0
  | [], _ => ⟨0, rfl, Nat.le_refl _, fun i h => by simp at h⟩
  | x :: l, hr => by
    obtain ⟨c, h1, h2, h3⟩ := cnt_spec key l (risI_tail hr)
    by_cases hx : cmpB x.key key < 0
    · refine ⟨c + 1, ?_, by simp; omega, fun i h => ?_⟩
      · rw [findM_cons, if_pos hx, h1]; omega
      · cases i with
        | zero => simp [hx]
        | succ i =>
          rw [List.getElem_cons_succ, ← h3 i (by simpa using h)]
          omega
    · have hc : c = 0 := by
        cases c with
        | zero => rfl
        | succ c =>
          exfalso
          have h0 : 0 < l.length := by omega
          have := (h3 0 h0).1 (by omega)
          exact hx (cmpB_trans _ _ _ (risI_head hr 0 h0) (Int.le_of_lt this))
      subst hc
      refine ⟨0, ?_, by simp, fun i h => ?_⟩
      · rw [findM_cons, if_neg hx, h1]; rfl
      · cases i with
        | zero => simp [hx]
        | succ i =>
          have := h3 i (by simpa using h)
          rw [List.getElem_cons_succ, ← this]
          omega
theorem bsG_spec (l : List ItemM) (key : Bytes) (c : Nat) (hc : ∀ (i : Nat) (h : i < l.length), i < c ↔ cmpB l[i].key key < 0) : ∀ (n i j : Nat), j < i + n → i ≤ c → c ≤ j → j ≤ l.length → bsG l key n i j = c
  | 0, i, j, hn, h1, h2, _ => by omega
  | n + 1, i, j, hn, h1, h2, h3 => by
    rw [bsG]
    by_cases hlt : i < j
    · have gi : (i + j) / 2 < l.length := by omega
      rw [if_pos hlt, List.getElem?_eq_getElem gi, Option.elim_some]
      split
      · rename_i hl
        have := (hc _ gi).2 hl
        exact bsG_spec l key c hc n _ j (by omega) (by omega) h2 h3
      · rename_i hl
        have : ¬ (i + j) / 2 < c := fun h => hl ((hc _ gi).1 h)
        exact bsG_spec l key c hc n i _ (by omega) h1 (by omega) (by omega)
    · rw [if_neg hlt]; omega
theorem bsM_findM (l : List ItemM) (key : Bytes) (hr : risI l = true) : (bsM l key : Int) = (findM l key).1 := by
  obtain ⟨c, h1, h2, h3⟩ := cnt_spec key l hr
  rw [h1, bsM, bsG_spec l key c h3 (l.length + 1) 0 l.length (by omega) (by omega) h2 (Nat.le_refl _)]
theorem path_ref (n : NodeM) (key : Bytes) (hr : risI n.items = true) : pathK key n = refK 0 key n := by
  unfold pathK refK
  rw [if_pos rfl]
  split
  · exact bsM_findM _ _ hr
  · rw [sideP_sideM]
end Go.VI
