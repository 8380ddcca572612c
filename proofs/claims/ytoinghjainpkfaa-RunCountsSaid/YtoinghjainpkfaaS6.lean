import Derived.Test.YtoinghjainpkfaaS5
import Derived.Shelf.SlSortCmp.WholeK
import Derived.Ground.SlsfProg
import Derived.Test.YtoinghjainpkfaaChecked
import Derived.ChangeArms
import Derived.ChangeReads
import GoSem.ClaimJoined
import Derived.Below
/- What the claim hangs on, part 6: PQ PR VXR PS PU PV PT PW PX PY PZ QA RSL VXQ RA RB. -/
set_option linter.unusedVariables false
set_option linter.unusedSimpArgs false
namespace Go.VI
theorem rgt_iff : ∀ {l : List RunM} {e : Int}, rgtL e l = true ↔ (∀ x ∈ l, mayM x = true ∧ e < x.1) ∧ l.Pairwise fun a b => endM a < b.1
  | [], e => by simp [rgtL]
  | y :: l, e => by
    rw [rgt_cons, rgt_iff, List.pairwise_cons]
    constructor
    · rintro ⟨h1, h2, h3, h4⟩
      have m1 := mayM_iff.1 h1
      refine ⟨fun x hx => ?_, fun x hx => (h3 x hx).2, h4⟩
      rcases List.mem_cons.1 hx with rfl | hx
      · exact ⟨h1, h2⟩
      · have := h3 x hx
        refine ⟨this.1, ?_⟩
        have := this.2
        unfold endM at this
        omega
    · rintro ⟨h1, h2, h3⟩
      exact ⟨(h1 y (by simp)).1, (h1 y (by simp)).2, fun x hx => ⟨(h1 x (by simp [hx])).1, h2 x hx⟩, h3⟩
theorem right_iff {l : List RunM} : rightM l = true ↔ (∀ x ∈ l, mayM x = true) ∧ l.Pairwise fun a b => endM a < b.1 := by
  unfold rightM
  rw [rgt_iff]
  refine ⟨fun h => ⟨fun x hx => (h.1 x hx).1, h.2⟩, fun h => ⟨fun x hx => ⟨h.1 x hx, ?_⟩, h.2⟩⟩
  have := mayM_iff.1 (h.1 x hx)
  omega
theorem clean_right (l : List RunM) : rightM (cleanM l) = true := by
  unfold cleanM
  split
  · assumption
  · rfl
theorem clean_of {l : List RunM} (h : rightM l = true) : cleanM l = l := by unfold cleanM; rw [if_pos h]
theorem clean_clean (l : List RunM) : cleanM (cleanM l) = cleanM l := clean_of (clean_right l)
theorem beq_iff' {a b : Bool} (h : a = true ↔ b = true) : a = b := Bool.eq_iff_iff.2 h
theorem may_pin {x : RunM} (h : mayM x = true) : pinR x x.1 = true := by
  have := mayM_iff.1 h
  rw [pinR_t]
  unfold endM
  omega
theorem fillT_getD {s : List Bool} {a b p : Nat} (h : p < s.length) : (fillT s a b).getD p false = (s.getD p false || (decide (a ≤ p) && decide (p < b))) := by
  rw [List.getD_eq_getElem?_getD, fillT_at s a b p h, List.getD_eq_getElem?_getD, List.getElem?_eq_getElem h]
  rfl
theorem fillL_at : ∀ (l : List RunM) (s : List Bool), (∀ x ∈ l, mayM x = true) → ∀ p : Nat, p < s.length → (fillL s l).getD p false = (s.getD p false || inR l (p : Int))
  | [], s, _, p, _ => by simp [fillL, inR_nil]
  | x :: l, s, hm, p, hp => by
    have e : fillL s (x :: l) = fillL (fillT s x.1.toNat (endM x).toNat) l := rfl
    rw [e, fillL_at l _ (fun y hy => hm y (by simp [hy])) p (by rw [fillT_len]; exact hp), fillT_getD hp, inR_cons, Bool.or_assoc]
    congr 2
    have := mayM_iff.1 (hm x (by simp))
    have e1 : endM x = x.1 + x.2 := rfl
    unfold pinR
    congr 1 <;> rw [decide_eq_decide] <;> omega
theorem setM_len (l : List RunM) (n : Nat) : (setM l n).length = n := by
  unfold setM
  rw [fillL_len, List.length_replicate]
theorem setM_at (l : List RunM) {n p : Nat} (hp : p < n) : (setM l n).getD p false = inR (cleanM l) (p : Int) := by
  unfold setM
  rw [fillL_at _ _ (clean_may l) p (by simpa using hp)]
  simp [hp]
/-- What a set of few pages has. -/
structure Few (c : List RunM) : Prop where
  len : c.length ≤ 60
  le : ∀ x ∈ c, endM x ≤ 600
theorem few_clean {l : List RunM} (h : few4 l = true) : l.length ≤ 60 ∧ Few (cleanM l) := by
  unfold few4 at h
  rw [Bool.and_eq_true, decide_eq_true_eq, List.all_eq_true] at h
  refine ⟨h.1, Nat.le_trans (cleanM_len l) h.1, fun x hx => ?_⟩
  have hm := clean_may l x hx
  have hx' : x ∈ l := by
    unfold cleanM at hx
    split at hx
    · exact hx
    · cases hx
  have := h.2 x hx'
  unfold fewR at this
  rw [hm] at this
  simp at this
  exact this
theorem few_lt {c : List RunM} (h : Few c) {p : Int} (hp : inR c p = true) : p < 600 := by
  obtain ⟨x, hx, h1, h2⟩ := inR_t.1 hp
  have := h.le x hx
  omega
theorem in_pos {c : List RunM} (h : ∀ x ∈ c, mayM x = true) {p : Int} (hp : inR c p = true) : 0 ≤ p ∧ p < 32768 := by
  obtain ⟨x, hx, h1, h2⟩ := inR_t.1 hp
  have := mayM_iff.1 (h x hx)
  unfold endM at h2
  omega
theorem joinS_snoc (b : List RunM) (y x : RunM) : joinS (b ++ [y]) x = if x.1 > endM y then b ++ [y] ++ [x] else b ++ [(y.1, mxM (endM y) (endM x) - y.1)] := by
  rw [joinS_some (m := b.length) (by simp)]
  simp
theorem joinS_ok {a : List RunM} {x : RunM} (ha : rgtL (-1) a = true) (hx : mayM x = true) (hs : ∀ y ∈ a, y.1 ≤ x.1) :
    rgtL (-1) (joinS a x) = true ∧ (∀ p, inR (joinS a x) p = (inR a p || pinR x p)) ∧ ∀ y ∈ joinS a x, y.1 ≤ x.1 := by
  have mx := mayM_iff.1 hx
  have ex : endM x = x.1 + x.2 := rfl
  rcases List.eq_nil_or_concat a with rfl | ⟨b, y, rfl⟩
  · rw [joinS_nil]
    refine ⟨?_, fun p => by simp [inR_cons, inR_nil], by simp⟩
    rw [List.nil_append, rgt_cons]
    exact ⟨hx, by omega, rfl⟩
  · rw [List.concat_eq_append] at *
    obtain ⟨r1, r2, r3, r4⟩ := rgt_snoc.1 ha
    have my := mayM_iff.1 r2
    have ey : endM y = y.1 + y.2 := rfl
    have hyx := hs y (by simp)
    rw [joinS_snoc]
    split
    · rename_i hgt
      refine ⟨rgt_snoc.2 ⟨ha, hx, by omega, fun z hz => ?_⟩, fun p => by rw [inR_append, inR_cons, inR_nil, Bool.or_false], fun z hz => ?_⟩
      · rcases List.mem_append.1 hz with hz | hz
        · have := r4 z hz
          omega
        · simp at hz
          rw [hz]; omega
      · rcases List.mem_append.1 hz with hz | hz
        · exact hs z hz
        · simp at hz
          rw [hz]; omega
    · rename_i hgt
      have e3 : endM (y.1, mxM (endM y) (endM x) - y.1) = mxM (endM y) (endM x) := by unfold endM; simp only; omega
      have e4 : endM y ≤ mxM (endM y) (endM x) ∧ endM x ≤ mxM (endM y) (endM x) ∧ (mxM (endM y) (endM x) = endM y ∨ mxM (endM y) (endM x) = endM x) := by unfold mxM; split <;> omega
      refine ⟨rgt_snoc.2 ⟨r1, mayM_iff.2 ?_, r3, r4⟩, fun p => ?_, fun z hz => ?_⟩
      · simp only
        omega
      · rw [inR_append, inR_append, inR_cons, inR_nil, Bool.or_false, inR_cons, inR_nil, Bool.or_false, Bool.or_assoc]
        congr 1
        refine beq_iff' ?_
        rw [Bool.or_eq_true, pinR_t, pinR_t, pinR_t, e3]
        simp only
        omega
      · rcases List.mem_append.1 hz with hz | hz
        · exact hs z (by simp [hz])
        · simp at hz
          rw [hz]; exact hyx
theorem joinF_ok : ∀ (s a : List RunM), rgtL (-1) a = true → (∀ x ∈ s, mayM x = true) → (s.Pairwise fun a b => a.1 ≤ b.1) → (∀ y ∈ a, ∀ x ∈ s, y.1 ≤ x.1) →
    rgtL (-1) (s.foldl joinS a) = true ∧ ∀ p, inR (s.foldl joinS a) p = (inR a p || inR s p)
  | [], a, ha, _, _, _ => ⟨ha, fun p => by simp [inR_nil]⟩
  | x :: s, a, ha, hm, hp, hs => by
    obtain ⟨h1, h2, h3⟩ := joinS_ok ha (hm x (by simp)) fun y hy => hs y hy x (by simp)
    rw [List.pairwise_cons] at hp
    have := joinF_ok s (joinS a x) h1 (fun y hy => hm y (by simp [hy])) hp.2 fun y hy z hz => by
      have q1 := h3 y hy
      have q2 := hp.1 z hz
      omega
    refine ⟨this.1, fun p => ?_⟩
    rw [List.foldl_cons, this.2, h2, inR_cons, Bool.or_assoc]
theorem joinM_ok {l : List RunM} (h : ∀ x ∈ l, mayM x = true) : rightM (joinM l) = true ∧ ∀ p, inR (joinM l) p = inR l p := by
  have := joinF_ok (sortR l) [] rfl (sortR_may h) (sortR_sorted l) (by simp)
  refine ⟨this.1, fun p => ?_⟩
  unfold joinM
  rw [this.2, inR_nil, Bool.false_or]
  exact inR_perm (sortR_perm h) p
theorem joinM_len {l : List RunM} (h : ∀ x ∈ l, mayM x = true) : (joinM l).length ≤ l.length := by
  have := (fold_may (sortR_may h) [] (by simp)).2
  rw [sortR_len h] at this
  simpa [joinM] using this
theorem idxM_split (q : RunM → Bool) {xa bs : List RunM} {b : RunM} (h1 : ∀ a ∈ xa, q a = false) (h2 : q b = true) : ∀ i : Nat, idxM q i (xa ++ b :: bs) = (i : Int) + xa.length := by
  induction xa with
  | nil => intro i; simp [idxM, h2]
  | cons a xa ih =>
    intro i
    rw [List.cons_append, idxM, h1 a (by simp)]
    simp only [Bool.false_eq_true, if_false]
    rw [ih fun x hx => h1 x (by simp [hx])]
    simp only [List.length_cons]
    omega
theorem any_split (q : RunM → Bool) : ∀ {l : List RunM}, l.any q = true → ∃ xa b bs, l = xa ++ b :: bs ∧ q b = true ∧ ∀ a ∈ xa, q a = false
  | [], h => by cases h
  | x :: l, h => by
    cases e : q x with
    | true => exact ⟨[], x, l, rfl, e, by simp⟩
    | false =>
      rw [List.any_cons, e, Bool.false_or] at h
      obtain ⟨xa, b, bs, h1, h2, h3⟩ := any_split q h
      refine ⟨x :: xa, b, bs, by rw [h1]; rfl, h2, fun a ha => ?_⟩
      rcases List.mem_cons.1 ha with rfl | ha
      · exact e
      · exact h3 a ha
theorem idx_split {q : RunM → Bool} {l : List RunM} (h : 0 ≤ idxM q 0 l) : ∃ xa b bs, l = xa ++ b :: bs ∧ q b = true ∧ (∀ a ∈ xa, q a = false) ∧ idxM q 0 l = xa.length := by
  have h1 := (idxM_neg q l 0).1
  rw [decide_eq_true h] at h1
  obtain ⟨xa, b, bs, e, h2, h3⟩ := any_split q h1.symm
  refine ⟨xa, b, bs, e, h2, h3, ?_⟩
  rw [e, idxM_split q h3 h2]
  simp
theorem overB_t {x y : RunM} (hx : mayM x = true) (hy : mayM y = true) : overB x y = true ↔ y.1 < endM x ∧ x.1 < endM y := by
  unfold overB
  rw [endW_may hx, endW_may hy]
  simp
theorem overB_pg {x y : RunM} (hx : mayM x = true) (hy : mayM y = true) : overB x y = true ↔ ∃ p, pinR x p = true ∧ pinR y p = true := by
  rw [overB_t hx hy]
  have m1 := mayM_iff.1 hx
  have m2 := mayM_iff.1 hy
  have e1 : endM x = x.1 + x.2 := rfl
  have e2 : endM y = y.1 + y.2 := rfl
  constructor
  · rintro ⟨h1, h2⟩
    rcases Int.le_total x.1 y.1 with h | h
    · exact ⟨y.1, pinR_t.2 ⟨h, h1⟩, may_pin hy⟩
    · exact ⟨x.1, may_pin hx, pinR_t.2 ⟨h, h2⟩⟩
  · rintro ⟨p, h1, h2⟩
    rw [pinR_t] at h1 h2
    omega
theorem over_t {l : List RunM} {x : RunM} (hx : mayM x = true) (hl : ∀ y ∈ l, mayM y = true) : 0 ≤ overI l x ↔ ∃ p, inR l p = true ∧ pinR x p = true := by
  have h1 := (idxM_neg (overB x) l 0).1
  rw [show (0 ≤ overI l x ↔ ∃ p, inR l p = true ∧ pinR x p = true) = (decide (0 ≤ idxM (overB x) 0 l) = true ↔ ∃ p, inR l p = true ∧ pinR x p = true) by rw [decide_eq_true_eq]; rfl, h1, List.any_eq_true]
  constructor
  · rintro ⟨y, hy, h⟩
    obtain ⟨p, p1, p2⟩ := (overB_pg hx (hl y hy)).1 h
    exact ⟨p, inR_t.2 ⟨y, hy, pinR_t.1 p2⟩, p1⟩
  · rintro ⟨p, p1, p2⟩
    obtain ⟨y, hy, h⟩ := inR_t.1 p1
    exact ⟨y, hy, (overB_pg hx (hl y hy)).2 ⟨p, p2, pinR_t.2 h⟩⟩
theorem hasM_eq (l : List RunM) (p : Int) : hasM l p = inR (cleanM l) p := by
  refine beq_iff' ?_
  unfold hasM
  rw [Bool.and_eq_true, decide_eq_true_eq]
  constructor
  · rintro ⟨h1, h2⟩
    obtain ⟨q, q1, q2⟩ := (over_t h1 (clean_may l)).1 h2
    rw [pinR_t] at q2
    unfold endM at q2
    simp only at q2
    rw [← q1]
    congr 1
    omega
  · intro h
    have hp := in_pos (clean_may l) h
    have hm : mayM (p, 1) = true := mayM_iff.2 ⟨by simp; omega, by simp, by simp; omega, by simp; omega⟩
    refine ⟨hm, (over_t hm (clean_may l)).2 ⟨p, h, may_pin hm⟩⟩
theorem addB_iff {l : List RunM} {x : RunM} : addB l x = true ↔ mayM x = true ∧ ∀ p, pinR x p = true → inR (cleanM l) p = false := by
  unfold addB
  rw [Bool.and_eq_true]
  refine and_congr_right fun hm => ?_
  rw [Bool.not_eq_true', decide_eq_false_iff_not, over_t hm (clean_may l)]
  constructor
  · intro h p hp
    cases e : inR (cleanM l) p with
    | false => rfl
    | true => exact absurd ⟨p, e, hp⟩ h
  · rintro h ⟨p, h1, h2⟩
    rw [h p h2] at h1
    cases h1
theorem addM_ok (l : List RunM) (x : RunM) : rightM (addM l x) = true ∧ ∀ p, inR (addM l x) p = (inR (cleanM l) p || (addB l x && pinR x p)) := by
  unfold addM
  cases e : addB l x with
  | false =>
    simp only [Bool.false_eq_true, if_false, Bool.false_and, Bool.or_false]
    exact ⟨clean_right l, fun _ => trivial⟩
  | true =>
    simp only [if_true, Bool.true_and]
    have := joinM_ok (addB_may (l := l) (addB_iff.1 e).1)
    refine ⟨this.1, fun p => ?_⟩
    rw [this.2, inR_append, inR_cons, inR_nil, Bool.or_false]
theorem addM_len (l : List RunM) (x : RunM) : (addM l x).length ≤ l.length + 1 := by
  have := cleanM_len l
  unfold addM
  split
  · rename_i e
    have h := joinM_len (addB_may (l := l) (addB_iff.1 e).1)
    simp at h
    omega
  · omega
theorem right_mid {xa bs : List RunM} {y : RunM} (h : rightM (xa ++ y :: bs) = true) : (∀ a ∈ xa, endM a < y.1) ∧ (∀ b ∈ bs, endM y < b.1) ∧ ∀ a ∈ xa, ∀ b ∈ bs, endM a < b.1 := by
  have := (right_iff.1 h).2
  rw [List.pairwise_append, List.pairwise_cons] at this
  exact ⟨fun a ha => this.2.2 a ha y (by simp), fun b hb => this.2.1.1 b hb, fun a ha b hb => this.2.2 a ha b (by simp [hb])⟩
theorem drop_split {c : List RunM} (hc : rightM c = true) {x : RunM} (hx : mayM x = true) (h0 : 0 ≤ overI c x) : ∃ xa y bs, c = xa ++ y :: bs ∧ dropK c x = xa.length ∧ overB x y = true ∧ ((∀ p, pinR x p = true → inR c p = true) ↔ y.1 ≤ x.1 ∧ endM x ≤ endM y) := by
  obtain ⟨xa, y, bs, e, h1, h2, h3⟩ := idx_split h0
  refine ⟨xa, y, bs, e, ?_, h1, ?_⟩
  · unfold dropK overI
    omega
  have hm := (right_iff.1 hc).1
  have hy : mayM y = true := hm y (by rw [e]; simp)
  have ho := (overB_t hx hy).1 h1
  rw [e] at hc
  obtain ⟨m1, m2, m3⟩ := right_mid hc
  have qx := mayM_iff.1 hx
  have ex : endM x = x.1 + x.2 := rfl
  constructor
  · intro h
    have k1 : y.1 ≤ x.1 := by
      have := h x.1 (may_pin hx)
      obtain ⟨z, hz, z1, z2⟩ := inR_t.1 this
      rw [e] at hz
      rcases List.mem_append.1 hz with hz' | hz'
      · have hov : overB x z = true := (overB_t hx (hm z (by rw [e]; exact hz))).2 ⟨by omega, z2⟩
        rw [h2 z hz'] at hov
        cases hov
      · rcases List.mem_cons.1 hz' with rfl | hz'
        · exact z1
        · have := m2 z hz'
          omega
    refine ⟨k1, ?_⟩
    rcases Int.lt_or_le (endM y) (endM x) with hlt | hle
    · have := h (endM y) (pinR_t.2 ⟨by omega, hlt⟩)
      obtain ⟨z, hz, z1, z2⟩ := inR_t.1 this
      rw [e] at hz
      have qy := mayM_iff.1 hy
      have ey : endM y = y.1 + y.2 := rfl
      rcases List.mem_append.1 hz with hz' | hz'
      · have := m1 z hz'
        omega
      · rcases List.mem_cons.1 hz' with rfl | hz'
        · omega
        · have := m2 z hz'
          omega
    · exact hle
  · rintro ⟨k1, k2⟩ p hp
    rw [pinR_t] at hp
    exact inR_t.2 ⟨y, by rw [e]; simp, by omega, by omega⟩
theorem dropB_iff {l : List RunM} {x : RunM} : dropB l x = true ↔ mayM x = true ∧ ∀ p, pinR x p = true → inR (cleanM l) p = true := by
  have hc := clean_right l
  unfold dropB
  rw [Bool.and_eq_true, Bool.and_eq_true, decide_eq_true_eq, and_assoc]
  refine and_congr_right fun hm => ?_
  constructor
  · rintro ⟨h1, h2⟩
    obtain ⟨xa, y, bs, e, hk, _, hi⟩ := drop_split hc hm h1
    rw [hk, e] at h2
    rw [List.getElem?_append_right (Nat.le_refl _)] at h2
    simp at h2
    exact hi.2 h2
  · intro h
    have h1 : 0 ≤ overI (cleanM l) x := (over_t hm (clean_may l)).2 ⟨x.1, h _ (may_pin hm), may_pin hm⟩
    obtain ⟨xa, y, bs, e, hk, _, hi⟩ := drop_split hc hm h1
    refine ⟨h1, ?_⟩
    rw [hk, e]
    rw [List.getElem?_append_right (Nat.le_refl _)]
    simp
    exact hi.1 h
theorem inR_nz (l : List RunM) (p : Int) : inR (l.filter nzR) p = inR l p := by
  induction l with
  | nil => rfl
  | cons x l ih =>
    rw [List.filter_cons]
    cases e : nzR x with
    | true => simp only [if_true, inR_cons, ih]
    | false =>
      have : x.2 = 0 := by simpa [nzR] using e
      have hp : pinR x p = false := by
        rw [pinR_f]
        unfold endM
        omega
      simp only [Bool.false_eq_true, if_false, inR_cons, ih, hp, Bool.false_or]
theorem dropM_ok (l : List RunM) (x : RunM) : rightM (dropM l x) = true ∧ ∀ p, inR (dropM l x) p = (inR (cleanM l) p && !(dropB l x && pinR x p)) := by
  have hc := clean_right l
  unfold dropM
  cases e : dropB l x with
  | false =>
    simp only [Bool.false_eq_true, if_false, Bool.false_and, Bool.not_false, Bool.and_true]
    exact ⟨hc, fun _ => trivial⟩
  | true =>
    simp only [if_true, Bool.true_and]
    obtain ⟨hm, ha⟩ := dropB_iff.1 e
    have h1 : 0 ≤ overI (cleanM l) x := (over_t hm (clean_may l)).2 ⟨x.1, ha _ (may_pin hm), may_pin hm⟩
    obtain ⟨xa, y, bs, ec, hk, _, hi⟩ := drop_split hc hm h1
    obtain ⟨k1, k2⟩ := hi.1 ha
    have hmc := (right_iff.1 hc).1
    rw [hk, ec, List.getElem?_append_right (Nat.le_refl _)]
    simp only [Nat.sub_self, List.getElem?_cons_zero]
    have ep : putR (xa ++ y :: bs) xa.length ((dropP y x).filter nzR) = xa ++ ((dropP y x).filter nzR ++ bs) := by
      unfold putR
      rw [List.take_left' rfl, show xa.length + 1 = (xa ++ [y]).length by simp, show xa ++ y :: bs = (xa ++ [y]) ++ bs by simp, List.drop_left' rfl, List.append_assoc]
    rw [ep]
    rw [ec] at hc hmc
    obtain ⟨m1, m2, m3⟩ := right_mid hc
    have hy : mayM y = true := hmc y (by simp)
    have qx := mayM_iff.1 hm
    have qy := mayM_iff.1 hy
    have ex : endM x = x.1 + x.2 := rfl
    have ey : endM y = y.1 + y.2 := rfl
    have e1 : endM (y.1, x.1 - y.1) = x.1 := by unfold endM; simp only; omega
    have e2 : endM (endM x, endM y - endM x) = endM y := by
      show endM x + (endM y - endM x) = endM y
      omega
    have hmem : ∀ z ∈ (dropP y x).filter nzR, mayM z = true ∧ y.1 ≤ z.1 ∧ endM z ≤ endM y := by
      intro z hz
      rw [List.mem_filter] at hz
      obtain ⟨hz, hn⟩ := hz
      have hn : z.2 ≠ 0 := by simpa [nzR] using hn
      simp only [dropP, List.mem_cons, List.not_mem_nil, or_false] at hz
      rcases hz with rfl | rfl
      · simp only at hn
        refine ⟨mayM_iff.2 ?_, ?_, ?_⟩
        · simp only; omega
        · simp only; omega
        · rw [e1]; omega
      · simp only at hn
        refine ⟨mayM_iff.2 ?_, ?_, ?_⟩
        · simp only; omega
        · simp only; omega
        · rw [e2]; omega
    have hpw : ((dropP y x).filter nzR).Pairwise fun a b => endM a < b.1 := by
      refine List.Pairwise.filter _ ?_
      unfold dropP
      rw [List.pairwise_cons]
      refine ⟨fun z hz => ?_, List.pairwise_singleton _ _⟩
      simp at hz
      rw [hz, e1]
      simp only
      omega
    have hp0 := (right_iff.1 hc).2
    rw [List.pairwise_append, List.pairwise_cons] at hp0
    refine ⟨right_iff.2 ⟨fun z hz => ?_, ?_⟩, fun p => ?_⟩
    · rcases List.mem_append.1 hz with hz | hz
      · exact hmc z (by simp [hz])
      · rcases List.mem_append.1 hz with hz | hz
        · exact (hmem z hz).1
        · exact hmc z (by simp [hz])
    · rw [List.pairwise_append, List.pairwise_append]
      refine ⟨hp0.1, ⟨hpw, hp0.2.1.2, fun a ha b hb => ?_⟩, fun a ha b hb => ?_⟩
      · have q1 := hmem a ha
        have q2 := m2 b hb
        omega
      · rcases List.mem_append.1 hb with hb | hb
        · have q1 := hmem b hb
          have q2 := m1 a ha
          omega
        · exact m3 a ha b hb
    · rw [inR_append, inR_append, inR_append, inR_cons, inR_nz]
      have hF : inR (dropP y x) p = (pinR y p && !pinR x p) := by
        unfold dropP
        rw [inR_cons, inR_cons, inR_nil, Bool.or_false]
        refine beq_iff' ?_
        rw [Bool.or_eq_true, Bool.and_eq_true, Bool.not_eq_true', pinR_t, pinR_t, pinR_t, pinR_f, e1, e2]
        simp only
        omega
      rw [hF]
      cases ex1 : pinR x p with
      | false => simp
      | true =>
        rw [pinR_t] at ex1
        have a0 : inR xa p = false := inR_f.2 fun z hz => by have := m1 z hz; omega
        have b0 : inR bs p = false := inR_f.2 fun z hz => by have := m2 z hz; omega
        rw [a0, b0]
        simp
theorem dropM_len (l : List RunM) (x : RunM) : (dropM l x).length ≤ l.length + 1 := by
  have := cleanM_len l
  unfold dropM
  split
  · split
    · rename_i y _
      unfold putR
      have h2 : ((dropP y x).filter nzR).length ≤ 2 := List.length_filter_le _ _
      rename_i hy
      have hlt : dropK (cleanM l) x < (cleanM l).length := by
        rcases Nat.lt_or_ge (dropK (cleanM l) x) (cleanM l).length with h | h
        · exact h
        · rw [List.getElem?_eq_none h] at hy
          cases hy
      simp only [List.length_append, List.length_take, List.length_drop]
      omega
    · omega
  · omega
theorem unionM_ok (a b : List RunM) : rightM (unionM a b) = true ∧ ∀ p, inR (unionM a b) p = (inR (cleanM a) p || inR (cleanM b) p) := by
  have := joinM_ok (cleans_may a b)
  refine ⟨this.1, fun p => ?_⟩
  unfold unionM
  rw [this.2, inR_append]
theorem unionM_len (a b : List RunM) : (unionM a b).length ≤ a.length + b.length := by
  have h := joinM_len (cleans_may a b)
  have h1 := cleanM_len a
  have h2 := cleanM_len b
  simp at h
  unfold unionM
  omega
theorem unionM_comm (a b : List RunM) : unionM a b = unionM b a := by
  have h1 := unionM_ok a b
  have h2 := unionM_ok b a
  exact right_ext h1.1 h2.1 fun p => by rw [h1.2, h2.2, Bool.or_comm]
theorem meetM_iff {a b : List RunM} : meetM a b = true ↔ ∃ p, inR (cleanM a) p = true ∧ inR (cleanM b) p = true := by
  unfold meetM
  rw [List.any_eq_true]
  constructor
  · rintro ⟨y, hy, h⟩
    rw [decide_eq_true_eq] at h
    obtain ⟨p, p1, p2⟩ := (over_t (clean_may a y hy) (clean_may b)).1 h
    exact ⟨p, inR_t.2 ⟨y, hy, pinR_t.1 p2⟩, p1⟩
  · rintro ⟨p, p1, p2⟩
    obtain ⟨y, hy, h⟩ := inR_t.1 p1
    exact ⟨y, hy, decide_eq_true ((over_t (clean_may a y hy) (clean_may b)).2 ⟨p, p2, pinR_t.2 h⟩)⟩
theorem ofM_ok (l : List Int) : rightM (ofM l) = true ∧ ∀ p, inR (ofM l) p = (decide (0 ≤ p) && decide (p < 32768) && l.contains p) := by
  have := joinM_ok (singM_may l)
  refine ⟨this.1, fun p => ?_⟩
  unfold ofM
  rw [this.2]
  refine beq_iff' ?_
  rw [Bool.and_eq_true, Bool.and_eq_true, decide_eq_true_eq, decide_eq_true_eq, List.contains_iff_mem, inR_t]
  constructor
  · rintro ⟨x, hx, h1, h2⟩
    have hm := mayM_iff.1 (singM_may l x hx)
    unfold singM at hx
    rw [List.mem_filter, List.mem_map] at hx
    obtain ⟨⟨q, hq, rfl⟩, _⟩ := hx
    unfold endM at h2
    simp only at h1 h2 hm
    obtain rfl : p = q := by omega
    exact ⟨by omega, hq⟩
  · rintro ⟨h, hp⟩
    refine ⟨(p, 1), List.mem_filter.2 ⟨List.mem_map.2 ⟨p, hp, rfl⟩, mayM_iff.2 ?_⟩, ?_, ?_⟩
    · simp only; omega
    · simp
    · show p < p + 1
      omega
end Go.VI

set_option linter.unusedVariables false
set_option linter.unusedSimpArgs false
namespace Go.VI
theorem pgs_mem {x : RunM} (h : mayM x = true) {p : Int} : p ∈ pgs x x.2.toNat ↔ pinR x p = true := by
  have m := mayM_iff.1 h
  unfold pgs
  rw [List.mem_map, pinR_t]
  unfold endM
  constructor
  · rintro ⟨k, hk, rfl⟩
    rw [List.mem_range] at hk
    omega
  · rintro ⟨h1, h2⟩
    exact ⟨(p - x.1).toNat, List.mem_range.2 (by omega), by omega⟩
theorem pgsL_mem {l : List RunM} (h : ∀ x ∈ l, mayM x = true) {p : Int} : p ∈ pgsL l ↔ inR l p = true := by
  unfold pgsL
  rw [List.mem_flatMap, inR_t]
  constructor
  · rintro ⟨x, hx, hp⟩
    exact ⟨x, hx, pinR_t.1 ((pgs_mem (h x hx)).1 hp)⟩
  · rintro ⟨x, hx, hp⟩
    exact ⟨x, hx, (pgs_mem (h x hx)).2 (pinR_t.2 hp)⟩
theorem pgs_rise (x : RunM) (n : Nat) : (pgs x n).Pairwise (· < ·) := by
  unfold pgs
  rw [List.pairwise_map]
  exact (List.pairwise_lt_range (n := n)).imp fun h => by omega
theorem pgsL_rise : ∀ {l : List RunM}, (∀ x ∈ l, mayM x = true) → (l.Pairwise fun a b => endM a < b.1) → (pgsL l).Pairwise (· < ·)
  | [], _, _ => List.Pairwise.nil
  | x :: l, h, hp => by
    have e : pgsL (x :: l) = pgs x x.2.toNat ++ pgsL l := rfl
    rw [List.pairwise_cons] at hp
    rw [e, List.pairwise_append]
    refine ⟨pgs_rise _ _, pgsL_rise (fun y hy => h y (by simp [hy])) hp.2, fun a ha b hb => ?_⟩
    rw [pgs_mem (h x (by simp)), pinR_t] at ha
    rw [pgsL_mem fun y hy => h y (by simp [hy]), inR_t] at hb
    obtain ⟨y, hy, h1, _⟩ := hb
    have := hp.1 y hy
    omega
theorem rise_ext : ∀ {a b : List Int}, a.Pairwise (· < ·) → b.Pairwise (· < ·) → (∀ p, p ∈ a ↔ p ∈ b) → a = b
  | [], [], _, _, _ => rfl
  | [], y :: b, _, _, h => absurd ((h y).2 (by simp)) (by simp)
  | x :: a, [], _, _, h => absurd ((h x).1 (by simp)) (by simp)
  | x :: a, y :: b, ha, hb, h => by
    rw [List.pairwise_cons] at ha hb
    have e : x = y := by
      have h1 := (h x).1 (by simp)
      have h2 := (h y).2 (by simp)
      rcases List.mem_cons.1 h1 with h1 | h1
      · exact h1
      · rcases List.mem_cons.1 h2 with h2 | h2
        · exact h2.symm
        · have q1 := hb.1 x h1
          have q2 := ha.1 y h2
          omega
    subst e
    congr 1
    refine rise_ext ha.2 hb.2 fun p => ?_
    have hp := h p
    simp only [List.mem_cons] at hp
    constructor
    · intro k
      rcases hp.1 (.inr k) with rfl | k2
      · exact absurd (ha.1 p k) (by omega)
      · exact k2
    · intro k
      rcases hp.2 (.inr k) with rfl | k2
      · exact absurd (hb.1 p k) (by omega)
      · exact k2
/-- The numbers below some at which a row says yes. -/
def upto (f : Nat → Bool) (n : Nat) : List Int := ((List.range n).filter f).map fun (k : Nat) => (k : Int)
theorem upto_succ (f : Nat → Bool) (n : Nat) : upto f (n + 1) = if f n then upto f n ++ [(n : Int)] else upto f n := by
  unfold upto
  rw [List.range_succ, List.filter_append]
  cases e : f n <;> simp [e]
theorem upto_len_le (f : Nat → Bool) : ∀ n, (upto f n).length ≤ n
  | 0 => by simp [upto]
  | n + 1 => by
    have := upto_len_le f n
    rw [upto_succ]
    split <;> simp <;> omega
theorem upto_mem {f : Nat → Bool} {n : Nat} {p : Int} : p ∈ upto f n ↔ 0 ≤ p ∧ p < n ∧ f p.toNat = true := by
  unfold upto
  rw [List.mem_map]
  constructor
  · rintro ⟨k, hk, rfl⟩
    rw [List.mem_filter, List.mem_range] at hk
    exact ⟨by omega, by omega, by simpa using hk.2⟩
  · rintro ⟨h1, h2, h3⟩
    exact ⟨p.toNat, by rw [List.mem_filter, List.mem_range]; exact ⟨by omega, h3⟩, by omega⟩
theorem upto_rise (f : Nat → Bool) (n : Nat) : (upto f n).Pairwise (· < ·) := by
  unfold upto
  rw [List.pairwise_map]
  exact ((List.pairwise_lt_range (n := n)).filter _).imp fun h => by omega
theorem upto_congr {f g : Nat → Bool} {n : Nat} (h : ∀ k, k < n → f k = g k) : upto f n = upto g n := by
  unfold upto
  congr 1
  refine List.filter_congr fun k hk => h k (List.mem_range.1 hk)
/-- A part of it, at the beginning. -/
theorem upto_pre (f : Nat → Bool) {i n : Nat} (h : i ≤ n) : ∃ t, upto f n = upto f i ++ t ∧ ∀ p ∈ t, (i : Int) ≤ p := by
  induction n with
  | zero =>
    obtain rfl : i = 0 := by omega
    exact ⟨[], (List.append_nil _).symm, fun p hp => by cases hp⟩
  | succ n ih =>
    rcases Nat.lt_or_ge n i with h1 | h1
    · obtain rfl : i = n + 1 := by omega
      exact ⟨[], by simp, by simp⟩
    · obtain ⟨t, e, ht⟩ := ih h1
      rw [upto_succ]
      split
      · refine ⟨t ++ [(n : Int)], by rw [e, List.append_assoc], fun p hp => ?_⟩
        rcases List.mem_append.1 hp with hp | hp
        · exact ht p hp
        · simp at hp
          omega
      · exact ⟨t, e, ht⟩
theorem pages_upto {l : List RunM} {n : Nat} (h : ∀ p, inR (cleanM l) p = true → p < n) : pagesM l = upto (fun k => inR (cleanM l) (k : Int)) n := by
  have hc := right_iff.1 (clean_right l)
  refine rise_ext (pgsL_rise hc.1 hc.2) (upto_rise _ _) fun p => ?_
  unfold pagesM
  rw [pgsL_mem hc.1, upto_mem]
  constructor
  · intro hp
    have := in_pos hc.1 hp
    refine ⟨this.1, h p hp, ?_⟩
    rw [← hp]
    congr 1
    omega
  · rintro ⟨h1, _, h3⟩
    rw [← h3]
    congr 1
    omega
theorem pages_600 {l : List RunM} (h : few4 l = true) : pagesM l = upto (fun k => (setM l 600).getD k false) 600 := by
  obtain ⟨_, hf⟩ := few_clean h
  rw [pages_upto (n := 600) fun p hp => few_lt hf hp]
  exact upto_congr fun k hk => (setM_at l hk).symm
theorem sum_pages : ∀ {l : List RunM}, (∀ x ∈ l, mayM x = true) → sumM l = (pgsL l).length
  | [], _ => rfl
  | x :: l, h => by
    have e : pgsL (x :: l) = pgs x x.2.toNat ++ pgsL l := rfl
    have m := mayM_iff.1 (h x (by simp))
    rw [sumM_cons, sum_pages fun y hy => h y (by simp [hy]), e, List.length_append, pgs_len]
    omega
theorem countM_eq (l : List RunM) : countM l = (pagesM l).length := sum_pages (clean_may l)
/-- The end of a set: one more than its greatest page, or nothing. -/
def IsEnd (q : Int → Bool) (e : Int) : Prop := (∀ p, q p = true → p < e) ∧ ((e = 0 ∧ ∀ p, q p = false) ∨ (0 < e ∧ q (e - 1) = true))
theorem IsEnd.uniq {q : Int → Bool} {e e' : Int} (h : IsEnd q e) (h' : IsEnd q e') : e = e' := by
  obtain ⟨h1, h2⟩ := h
  obtain ⟨k1, k2⟩ := h'
  rcases h2 with ⟨h2, h3⟩ | ⟨h2, h3⟩ <;> rcases k2 with ⟨k2, k3⟩ | ⟨k2, k3⟩
  · omega
  · rw [h3] at k3; cases k3
  · rw [k3] at h3; cases h3
  · have := h1 _ k3
    have := k1 _ h3
    omega
theorem IsEnd.ext {q r : Int → Bool} {e : Int} (h : IsEnd q e) (hq : ∀ p, q p = r p) : IsEnd r e := by
  obtain rfl : q = r := funext hq
  exact h
theorem IsEnd.or {q r : Int → Bool} {e e' : Int} (h : IsEnd q e) (h' : IsEnd r e') : IsEnd (fun p => q p || r p) (mxM e e') := by
  obtain ⟨h1, h2⟩ := h
  obtain ⟨k1, k2⟩ := h'
  have he : 0 ≤ e := by rcases h2 with ⟨h, _⟩ | ⟨h, _⟩ <;> omega
  have he' : 0 ≤ e' := by rcases k2 with ⟨h, _⟩ | ⟨h, _⟩ <;> omega
  have hm : e ≤ mxM e e' ∧ e' ≤ mxM e e' ∧ (mxM e e' = e ∨ mxM e e' = e') := by unfold mxM; split <;> omega
  refine ⟨fun p hp => ?_, ?_⟩
  · simp only [Bool.or_eq_true] at hp
    rcases hp with hp | hp
    · have := h1 p hp
      omega
    · have := k1 p hp
      omega
  · rcases Int.lt_or_le 0 (mxM e e') with hp | hp
    · right
      refine ⟨hp, ?_⟩
      simp only [Bool.or_eq_true]
      rcases hm.2.2 with e0 | e0
      · rw [e0] at hp ⊢
        rcases h2 with ⟨h2, h3⟩ | ⟨h2, h3⟩
        · omega
        · exact .inl h3
      · rw [e0] at hp ⊢
        rcases k2 with ⟨h2, h3⟩ | ⟨h2, h3⟩
        · omega
        · exact .inr h3
    · left
      refine ⟨by omega, fun p => ?_⟩
      simp only [Bool.or_eq_false_iff]
      constructor
      · rcases h2 with ⟨h2, h3⟩ | ⟨h2, h3⟩
        · exact h3 p
        · omega
      · rcases k2 with ⟨h2, h3⟩ | ⟨h2, h3⟩
        · exact h3 p
        · omega
theorem endsM_is (l : List RunM) : IsEnd (inR (cleanM l)) (endsM l) := by
  have hr := clean_right l
  unfold endsM
  generalize cleanM l = c at *
  rcases List.eq_nil_or_concat c with rfl | ⟨b, y, rfl⟩
  · exact ⟨fun p hp => (by rw [inR_nil] at hp; cases hp), .inl ⟨rfl, inR_nil⟩⟩
  · rw [List.concat_eq_append] at *
    have e1 : (b ++ [y]).isEmpty = false := by simp
    have e2 : lastM (b ++ [y]) = y := by simp [lastM]
    rw [e1, e2]
    simp only [Bool.false_eq_true, if_false]
    obtain ⟨r1, r2, r3, r4⟩ := rgt_snoc.1 hr
    have my := mayM_iff.1 r2
    have ey : endM y = y.1 + y.2 := rfl
    refine ⟨fun p hp => ?_, .inr ⟨by omega, inR_t.2 ⟨y, by simp, by omega, by omega⟩⟩⟩
    obtain ⟨z, hz, h1, h2⟩ := inR_t.1 hp
    rcases List.mem_append.1 hz with hz | hz
    · have := r4 z hz
      omega
    · simp at hz
      rw [hz] at h2
      exact h2
/-- The end, told page by page. -/
def endT (f : Nat → Bool) : Nat → Int
  | 0 => 0
  | k + 1 => if f k then ((k + 1 : Nat) : Int) else endT f k
theorem endT_is (f : Nat → Bool) : ∀ n : Nat, IsEnd (fun p => decide (0 ≤ p) && decide (p < (n : Int)) && f p.toNat) (endT f n)
  | 0 => ⟨fun p hp => by rw [Bool.and_eq_true, Bool.and_eq_true, decide_eq_true_eq, decide_eq_true_eq] at hp; omega, .inl ⟨rfl, fun p => by
      rcases Int.lt_or_le p 0 with h | h
      · simp [show ¬ 0 ≤ p by omega]
      · simp [show ¬ p < 0 by omega]⟩⟩
  | n + 1 => by
    obtain ⟨h1, h2⟩ := endT_is f n
    unfold endT
    cases e : f n with
    | true =>
      simp only [if_true]
      refine ⟨fun p hp => ?_, .inr ⟨by omega, ?_⟩⟩
      · rw [Bool.and_eq_true, Bool.and_eq_true, decide_eq_true_eq, decide_eq_true_eq] at hp
        omega
      · have : (((n + 1 : Nat) : Int) - 1).toNat = n := by omega
        simp only [this, e, Bool.and_true, Bool.and_eq_true, decide_eq_true_eq]
        omega
    | false =>
      simp only [Bool.false_eq_true, if_false]
      have hq : ∀ p : Int, (decide (0 ≤ p) && decide (p < n) && f p.toNat) = (decide (0 ≤ p) && decide (p < ((n + 1 : Nat) : Int)) && f p.toNat) := fun p => by
        refine beq_iff' ?_
        rw [Bool.and_eq_true, Bool.and_eq_true, Bool.and_eq_true, Bool.and_eq_true, decide_eq_true_eq, decide_eq_true_eq, decide_eq_true_eq]
        constructor
        · rintro ⟨⟨a, b⟩, c⟩
          exact ⟨⟨a, by omega⟩, c⟩
        · rintro ⟨⟨a, b⟩, c⟩
          refine ⟨⟨a, ?_⟩, c⟩
          rcases Int.lt_or_le p n with h | h
          · exact h
          · have : p.toNat = n := by omega
            rw [this, e] at c
            cases c
      exact IsEnd.ext ⟨h1, h2⟩ hq
theorem ends_600 {l : List RunM} (h : few4 l = true) : endsM l = endT (fun k => (setM l 600).getD k false) 600 := by
  obtain ⟨_, hf⟩ := few_clean h
  refine (endsM_is l).uniq ((endT_is _ 600).ext fun p => ?_)
  refine beq_iff' ?_
  rw [Bool.and_eq_true, Bool.and_eq_true, decide_eq_true_eq, decide_eq_true_eq]
  constructor
  · rintro ⟨⟨a, b⟩, c⟩
    rw [setM_at l (by omega)] at c
    rw [← c]
    congr 1
    omega
  · intro hp
    have h1 := in_pos (clean_may l) hp
    have h2 := few_lt hf hp
    refine ⟨⟨h1.1, h2⟩, ?_⟩
    rw [setM_at l (by omega), ← hp]
    congr 1
    omega
theorem upto_len (f : Nat → Bool) (n : Nat) : (upto f n).length = ((List.range n).filter f).length := by simp [upto]
theorem filter_count (f g : Nat → Bool) : ∀ l : List Nat, (l.filter f).length + (l.filter g).length = (l.filter fun k => f k || g k).length + (l.filter fun k => f k && g k).length
  | [] => rfl
  | x :: l => by
    have := filter_count f g l
    simp only [List.filter_cons]
    cases f x <;> cases g x <;> simp <;> omega
theorem upto_count (f g : Nat → Bool) (n : Nat) : (upto f n).length + (upto g n).length = (upto (fun k => f k || g k) n).length + (upto (fun k => f k && g k) n).length := by
  simp only [upto_len]
  exact filter_count f g _
theorem upto_filter (f : Nat → Bool) (q : Int → Bool) (n : Nat) : (upto f n).filter q = upto (fun k => f k && q (k : Int)) n := by
  unfold upto
  rw [List.filter_map, List.filter_filter]
  congr 1
  refine List.filter_congr fun k _ => ?_
  simp only [Function.comp]
  rw [Bool.and_comm]
theorem clean_lt (l : List RunM) : ∀ p, inR (cleanM l) p = true → p < ((32768 : Nat) : Int) := fun p hp => by
  have := in_pos (clean_may l) hp
  omega
/-- TWO SETS HAVE AS MANY PAGES AS THEIR UNION, AND THOSE THAT ARE IN BOTH. -/
theorem counts (a b : List RunM) : countM a + countM b = countM (unionM a b) + (((pagesM a).filter fun p => hasM b p).length : Nat) := by
  have hu := unionM_ok a b
  have e1 : pagesM (unionM a b) = upto (fun k => inR (cleanM a) (k : Int) || inR (cleanM b) (k : Int)) 32768 := by
    rw [pages_upto (clean_lt _), clean_of hu.1]
    exact upto_congr fun k _ => hu.2 k
  have e2 : (pagesM a).filter (fun p => hasM b p) = upto (fun k => inR (cleanM a) (k : Int) && inR (cleanM b) (k : Int)) 32768 := by
    rw [pages_upto (clean_lt a), upto_filter]
    exact upto_congr fun k _ => by rw [hasM_eq]
  rw [countM_eq, countM_eq, countM_eq, e1, e2, pages_upto (clean_lt a), pages_upto (clean_lt b)]
  have := upto_count (fun k => inR (cleanM a) (k : Int)) (fun k => inR (cleanM b) (k : Int)) 32768
  omega
theorem meet_counts (a b : List RunM) : meetM a b = decide (0 < (((pagesM a).filter fun p => hasM b p).length : Int)) := by
  refine beq_iff' ?_
  rw [meetM_iff, decide_eq_true_eq]
  constructor
  · rintro ⟨p, h1, h2⟩
    have : p ∈ (pagesM a).filter fun p => hasM b p := by
      rw [List.mem_filter, hasM_eq]
      exact ⟨(pgsL_mem (clean_may a)).2 h1, h2⟩
    have := List.length_pos_of_mem this
    omega
  · intro h
    obtain ⟨p, hp⟩ := List.exists_mem_of_length_pos (show 0 < ((pagesM a).filter fun p => hasM b p).length by omega)
    rw [List.mem_filter, hasM_eq] at hp
    exact ⟨p, (pgsL_mem (clean_may a)).1 hp.1, hp.2⟩
theorem ends_union (a b : List RunM) : endsM (unionM a b) = mxM (endsM a) (endsM b) := by
  have hu := unionM_ok a b
  refine (endsM_is _).uniq (((endsM_is a).or (endsM_is b)).ext fun p => ?_)
  rw [clean_of hu.1, hu.2]
theorem idx_find (q : RunM → Bool) (l : List RunM) : (if 0 ≤ idxM q 0 l then l[(idxM q 0 l).toNat]? else none) = l.find? q := by
  have h1 := (idxM_neg q l 0).1
  by_cases h : 0 ≤ idxM q 0 l
  · rw [if_pos h]
    obtain ⟨xa, b, bs, e, h2, h3, h4⟩ := idx_split h
    rw [h4, e, List.find?_append]
    have : xa.find? q = none := by rw [List.find?_eq_none]; exact fun x hx => by rw [h3 x hx]; simp
    rw [this]
    simp [h2]
  · rw [if_neg h]
    rw [decide_eq_false h] at h1
    symm
    rw [List.find?_eq_none]
    intro x hx hq
    have : l.any q = true := List.any_eq_true.2 ⟨x, hx, hq⟩
    rw [← h1] at this
    cases this
/-- Where the first run with room begins; or -1. -/
def wantM (c : List RunM) (n : Int) : Int := match c.find? (takeB n) with
  | some y => y.1
  | none => -1
theorem tookM_none {l : List RunM} {n : Int} (h : (cleanM l).find? (takeB n) = none) : tookM l n = (0, cleanM l, false) := by
  unfold tookM fstI
  rw [idx_find, h]
theorem tookM_some {l : List RunM} {n : Int} {y : RunM} (h : (cleanM l).find? (takeB n) = some y) :
    tookM l n = (y.1, dropM (cleanM l) (y.1, n), true) ∧ rightM (dropM (cleanM l) (y.1, n)) = true ∧ (∀ p, inR (dropM (cleanM l) (y.1, n)) p = (inR (cleanM l) p && !(decide (y.1 ≤ p) && decide (p < y.1 + n)))) ∧ y ∈ cleanM l ∧ mayM y = true ∧ 1 ≤ n ∧ n ≤ y.2 := by
  have hy := List.mem_of_find?_eq_some h
  have hq := List.find?_some h
  unfold takeB at hq
  rw [Bool.and_eq_true, decide_eq_true_eq, decide_eq_true_eq] at hq
  have hm := clean_may l y hy
  have m := mayM_iff.1 hm
  have hx : mayM (y.1, n) = true := mayM_iff.2 ⟨m.1, hq.1, m.2.2.1, by simp only; omega⟩
  have hb : dropB (cleanM l) (y.1, n) = true := dropB_iff.2 ⟨hx, fun p hp => by
    rw [pinR_t] at hp
    unfold endM at hp
    simp only at hp
    rw [clean_clean]
    exact inR_t.2 ⟨y, hy, hp.1, by unfold endM; omega⟩⟩
  have hd := dropM_ok (cleanM l) (y.1, n)
  refine ⟨?_, hd.1, fun p => ?_, hy, hm, hq.1, hq.2⟩
  · unfold tookM fstI
    rw [idx_find, h]
    simp only [hb]
  · rw [hd.2, clean_clean, hb, Bool.true_and]
    rfl
end Go.VI

set_option linter.unusedVariables false
set_option linter.unusedSimpArgs false
namespace Go.VI
theorem call_frz {ft : FT} {k : FuncId} {args as' : List AV} {H H1 H2 : Heap} {v : AV} (hp : isPure ft k = true) (hz : frzCells H args = some (as', H1)) (hz2 : frzCells H1 as' = some (as', H1)) (h : callL ft (.fn (.func k) [] []) as' H1 = some (v, H2)) :
    callL ft (.fn (.func k) [] []) args H = some (v, H2) := by
  rw [callL_fn] at h ⊢
  unfold callF at h ⊢
  simp only [List.nil_append, List.append_nil] at h ⊢
  unfold isPure at hp
  split at hp
  · rename_i p n rs body hk
    subst hp
    simp only [hk, hz, hz2, Option.bind_some] at h ⊢
    exact h
  · rename_i p hk
    simp only [hk, hz, hz2, Option.bind_some] at h ⊢
    exact h
  · cases hp
theorem frz_again : ∀ (n : Nat), (∀ (v v' : AV) (H H1 : Heap), frz n H v = some (v', H1) → ∀ H2, frz n H2 v' = some (v', H2)) ∧ (∀ (cs cs' : List AV) (H H1 : Heap), frz.frzL n H cs = some (cs', H1) → ∀ H2, frz.frzL n H2 cs' = some (cs', H2)) := by
  intro n
  induction n with
  | zero => exact ⟨fun v v' H H1 h => by simp [frz] at h, fun cs cs' H H1 h => by simp [frz.frzL] at h⟩
  | succ n ih =>
    obtain ⟨ih1, ih2⟩ := ih
    refine ⟨fun v v' H H1 h H2 => ?_, fun cs cs' H H1 h H2 => ?_⟩
    · cases v with
      | bad => simp [frz] at h
      | sc v =>
        cases v <;> (cases h; rfl)
      | lst rows => simp only [frz] at h; cases h; rfl
      | pim rows i off => simp only [frz] at h; cases h; rfl
      | agg cs =>
        simp only [frz, Option.map_eq_some_iff] at h
        obtain ⟨⟨a, b⟩, h, h'⟩ := h
        cases h'
        simp only [frz, ih2 _ _ _ _ h H2, Option.map_some]
      | tup cs =>
        simp only [frz, Option.map_eq_some_iff] at h
        obtain ⟨⟨a, b⟩, h, h'⟩ := h
        cases h'
        simp only [frz, ih2 _ _ _ _ h H2, Option.map_some]
      | fn f a b =>
        simp only [frz, Option.bind_eq_bind, Option.bind_eq_some_iff] at h
        obtain ⟨⟨x, K1⟩, hx, ⟨y, K2⟩, hy, h⟩ := h
        cases h
        simp only [frz, Option.bind_eq_bind, ih2 _ _ _ _ hx H2, ih2 _ _ _ _ hy H2, Option.bind_some]
      | sl id off len =>
        simp only [frz] at h
        split at h
        · split at h
          · cases h; rfl
          · cases h
        · cases h
      | ptr id i off =>
        simp only [frz] at h
        split at h
        · cases h; rfl
        · split at h
          · cases h; rfl
          · cases h
        · split at h
          · simp only [Option.bind_eq_bind, Option.bind_eq_some_iff] at h
            obtain ⟨⟨x, H1⟩, hx, h⟩ := h
            split at h
            · cases h; rfl
            · cases h
          · cases h
        · cases h
      | emp => simp only [frz] at h; cases h; rfl
      | mp id => simp [frz] at h
      | yld id => simp [frz] at h
    · cases cs with
      | nil => simp only [frz.frzL] at h; cases h; rfl
      | cons c cs =>
        simp only [frz.frzL, Option.bind_eq_bind, Option.bind_eq_some_iff] at h
        obtain ⟨⟨x, K1⟩, hx, ⟨y, K2⟩, hy, h⟩ := h
        cases h
        simp only [frz.frzL, Option.bind_eq_bind, ih1 _ _ _ _ hx H2, ih2 _ _ _ _ hy H2, Option.bind_some]
/-- A call whose arguments are finished. -/
def KF (ft : FT) (f : AV) (args : List AV) (H : Heap) (Q : AV → Heap → Prop) : Prop := KW ft f args H Q
theorem KF_congr {ft : FT} {f f' : AV} {args args' : List AV} {H H' : Heap} {K : AV → Heap → Prop} (h1 : f = f') (h2 : args = args') (h3 : H = H') : KF ft f args H K = KF ft f' args' H' K := by rw [h1, h2, h3]
/-- A pure call: its arguments are finished first. -/
theorem KW_pure {ft : FT} {k : FuncId} (hp : isPure ft k = true) {args : List AV} {H : Heap} {Q : AV → Heap → Prop} : KW ft (.fn (.func k) [] []) args H Q ↔ PW (frzCells H args) fun as' H1 => KF ft (.fn (.func k) [] []) as' H1 Q := by
  constructor
  · rintro ⟨v, H2, h, hq⟩
    have h0 := h
    rw [callL_fn] at h
    unfold callF at h
    simp only [List.nil_append, List.append_nil] at h
    have hz : ∃ as' H1, frzCells H args = some (as', H1) := by
      unfold isPure at hp
      split at hp
      · rename_i p n rs body hk
        subst hp
        simp only [hk, Option.bind_eq_some_iff] at h
        obtain ⟨⟨a, b⟩, h, _⟩ := h
        exact ⟨a, b, h⟩
      · rename_i p hk
        simp only [hk, Option.bind_eq_some_iff] at h
        obtain ⟨⟨a, b⟩, h, _⟩ := h
        exact ⟨a, b, h⟩
      · cases hp
    obtain ⟨as', H1, hz⟩ := hz
    refine ⟨as', H1, hz, v, H2, ?_, hq⟩
    have hz2 : frzCells H1 as' = some (as', H1) := (frz_again FZ).2 _ _ _ _ hz H1
    rw [callL_fn]
    unfold callF
    simp only [List.nil_append, List.append_nil]
    unfold isPure at hp
    split at hp
    · rename_i p n rs body hk
      subst hp
      simp only [hk, hz, hz2, Option.bind_some] at h ⊢
      exact h
    · rename_i p hk
      simp only [hk, hz, hz2, Option.bind_some] at h ⊢
      exact h
    · cases hp
  · rintro ⟨as', H1, hz, v, H2, h, hq⟩
    exact ⟨v, H2, call_frz hp hz ((frz_again FZ).2 _ _ _ _ hz H1) h, hq⟩
end Go.VI

set_option linter.unusedVariables false
set_option linter.unusedSimpArgs false
set_option maxRecDepth 100000
namespace Go.VI
attribute [local congr] AW_congr OW_congr DW_congr NW_congr VW_congr GW_congr PW_congr KW_congr ite_congr' GV_congr CV_congr KF_congr
def L0 : List RunM := [(2, 2), (6, 1)]
def L1 : List RunM := [(2, 5)]
def L2 : List RunM := [(2, 1), (4, 3)]
def L3 : List RunM := [(4, 3)]
theorem a_add : addB L0 (4, 2) = true ∧ addM L0 (4, 2) = L1 := by
  have hb : addB L0 (4, 2) = true := by decide
  refine ⟨hb, ?_⟩
  have := addM_ok L0 (4, 2)
  refine right_ext this.1 (by decide) fun p => ?_
  rw [this.2, hb, show cleanM L0 = L0 by decide]
  refine beq_iff' ?_
  simp only [inR, pinR, L0, L1, List.any_cons, List.any_nil, Bool.or_eq_true, Bool.and_eq_true, decide_eq_true_eq, Bool.true_and, Bool.or_false]
  simp only [endM]
  omega
theorem a_un : unionM L2 L3 = L2 := by
  have := unionM_ok L2 L3
  refine right_ext this.1 (by decide) fun p => ?_
  rw [this.2, show cleanM L2 = L2 by decide, show cleanM L3 = L3 by decide]
  refine beq_iff' ?_
  simp only [inR, pinR, L2, L3, List.any_cons, List.any_nil, Bool.or_eq_true, Bool.and_eq_true, decide_eq_true_eq, Bool.true_and, Bool.or_false]
  simp only [endM]
  omega
theorem a_of : ofM [5, 4] = [(4, 2)] := by
  have := ofM_ok [5, 4]
  refine right_ext this.1 (by decide) fun p => ?_
  rw [this.2]
  refine beq_iff' ?_
  simp only [inR, pinR, List.any_cons, List.any_nil, Bool.or_eq_true, Bool.and_eq_true, decide_eq_true_eq, Bool.true_and, Bool.or_false, List.contains_iff_mem, List.mem_cons, List.not_mem_nil, or_false]
  simp only [endM]
  omega
theorem a_took : tookM L1 2 = (2, L3, true) := by decide
theorem a_drop : dropM L1 (3, 1) = L2 ∧ dropB L1 (3, 1) = true := by decide
theorem a_pages : pagesM L2 = [2, 4, 5, 6] := by decide
theorem s36 (H : Heap) : callL ftM (.fn (.func 36) [] []) [] H = some (boolA true, H) := by
  refine call_p (as' := []) rfl rfl (by simp) ?_
  unfold c36 r36
  have p50 := fun args K L Q => @KW_pure ftM 50 rfl args (hx K L) Q
  have p47 := fun args K L Q => @KW_pure ftM 47 rfl args (hx K L) Q
  have j50 : ∀ K L Q, KF ftM (.fn (.func 50) [] []) [encR L0, .agg (runC (4, 2))] (hx K L) Q ↔ Q (.tup [encR L1, boolA true]) (hx K L) := fun K L Q => by
    have := @k50 L0 (by decide) (4, 2) K L Q
    rw [a_add.1, a_add.2] at this
    exact this
  have j54 := fun K L Q => @k54 L1 (by decide) 2 K L Q
  have j51 := fun K L Q => @k51 L1 (by decide) (3, 1) K L Q
  have k38 := fun K L Q => @kM_of _ _ Q _ _ _ (s38 L2 (by decide) (hx K L))
  have k42 := fun K L Q => @kM_of _ _ Q _ _ _ (s42 L3 (by decide) (hx K L))
  have k43 := fun K L Q => @kM_of _ _ Q _ _ _ (s43 L1 (by decide) (hx K L))
  have k446 := fun K L Q => @k44 L2 (by decide) 6 K L Q
  have k443 := fun K L Q => @k44 L2 (by decide) 3 K L Q
  have j53 := fun K L Q => @k53 L1 L2 (by decide) (by decide) K L Q
  have k40 := fun K L Q => @kM_of _ _ Q _ _ _ (s40 L2 (by decide) (hx K L))
  have k52 := fun K L Q => @kM_of _ _ Q _ _ _ (s52 L2 L3 (by decide) (by decide) (hx K L))
  have k47 : ∀ K L Q, KF ftM (.fn (.func 47) [] []) [encN [5, 4]] (hx K L) Q ↔ Q (encR [(4, 2)]) (hx K L) := fun K L Q => by
    have := @kM_of _ _ Q _ _ _ (s47 [5, 4] (by decide) (hx K L))
    rw [a_of] at this
    exact this
  have i0 : ∀ H, iaddrA H none 2 (encR L1) 0 = some (.pim (L1.map runC) 0 0) := fun H => @atR H L1 0 (by decide)
  have c0 := fun H off n => @cR H L1 0 off n (by decide)
  have g0 : L1[0] = (2, 5) := rfl
  have i1 : ∀ H, iaddrA H none 1 (encN [2, 4, 5, 6]) 1 = some (.pim (([2, 4, 5, 6] : List Int).map numC) 1 0) := fun H => @atN H [2, 4, 5, 6] 1 (by decide)
  have c1 := fun H off n => @cN H [2, 4, 5, 6] 1 off n (by decide)
  have g1 : ([2, 4, 5, 6] : List Int)[1] = 4 := rfl
  have eq1 : eqsA [0, 0] [.sc (.int .i64 2), .sc (.int .i64 5)] [.sc (.int .i64 2), .sc (.int .i64 5)] = some true := by simp [eqsA, scEq]
  have n1 : ((L1.length : Nat) : Int) = 1 := rfl
  have n2 : ((L2.length : Nat) : Int) = 2 := rfl
  have m1 : ((1 : Nat) : Int) = 1 := rfl
  have m2 : ((2 : Nat) : Int) = 2 := rfl
  have m4 : ((4 : Nat) : Int) = 4 := rfl
  have c1' : ∀ H, cellsAt H (.pim [[.sc (.int .i64 2)], [.sc (.int .i64 4)], [.sc (.int .i64 5)], [.sc (.int .i64 6)]] 1 0) 1 = some [.sc (.int .i64 4)] := fun _ => rfl
  have n3 : ((([2, 4, 5, 6] : List Int).length : Nat) : Int) = 4 := rfl
  have n4 : ((([(4, 2)] : List RunM).length : Nat) : Int) = 1 := rfl
  have e42 : countM L3 = 3 := by decide
  have e43 : endsM L1 = 7 := by decide
  have e446 : hasM L2 6 = true := by decide
  have e443 : hasM L2 3 = false := by decide
  have e53 : meetM L1 L2 = true := by decide
  have e40 : rightM L2 = true := by decide
  rw [a_took] at j54
  rw [a_drop.1, a_drop.2] at j51
  rw [a_pages] at k38
  rw [e42] at k42
  rw [e43] at k43
  rw [e446] at k446
  rw [e443] at k443
  rw [e53] at j53
  rw [e40] at k40
  rw [a_un] at k52
  have z50 : encR L0 = .lst [[.sc (.int .i64 2), .sc (.int .i64 2)], [.sc (.int .i64 6), .sc (.int .i64 1)]] := rfl
  have z47 : encN [5, 4] = .lst [[.sc (.int .i64 5)], [.sc (.int .i64 4)]] := rfl
  rw [z50] at j50
  rw [z47] at k47
  simp only [runC, int, boolA] at j50 j54 j51 k42 k43 k446 k443 j53 k40 k52 k47
  simp only [↓vp, vq0, vq1, vq2, vq3, vr0, vr1, vr2, vr3, vr4, vr5, vr6, vr7, vr8, vr9, vr10, vr11, vr12, vr13, vr14, vr15, vr16, vr17, vr18, vr19, vr20, vr21, vr22, vr23, vr24, vr25, vr26, vr27, vr28, vr29, vr30, vr31, vr32, vr33, vr34, opS, fpS, extO, okP, pack, nAl, allocA, shId, leaves, fillA, fillR, splice, Nat.reduceLT, Nat.reduceEqDiff, Nat.reduceLeDiff, Nat.reduceAdd, Nat.reduceSub, Nat.reduceMul, Int.reduceBEq, Int.reduceBNe, Int.reduceLT, Int.reduceLE, Int.reduceEq, reduceIte, reduceCtorEq, da, int, boolA, dr, p50, j50]
  simp only [↓vp, vq0, vq1, vq2, vq3, vr0, vr1, vr2, vr3, vr4, vr5, vr6, vr7, vr8, vr9, vr10, vr11, vr12, vr13, vr14, vr15, vr16, vr17, vr18, vr19, vr20, vr21, vr22, vr23, vr24, vr25, vr26, vr27, vr28, vr29, vr30, vr31, vr32, vr33, vr34, opS, fpS, extO, okP, pack, nAl, allocA, shId, leaves, fillA, fillR, splice, Nat.reduceLT, Nat.reduceEqDiff, Nat.reduceLeDiff, Nat.reduceAdd, Nat.reduceSub, Nat.reduceMul, Int.reduceBEq, Int.reduceBNe, Int.reduceLT, Int.reduceLE, Int.reduceEq, reduceIte, reduceCtorEq, da, int, boolA, RetP_go, resT, resC, resN, retV1, retV2, retV3, retV0, frzFZ, takeM, Option.some.injEq, dr, j54, j51, k38, k42, k43, k446, k443, j53, k40, k52, p47, k47, i0, c0, g0, i1, c1, g1, runC, numC, eq1, n1, n2, n3, n4, m1, m2, m4, c1', beq_self_eq_true]
end Go.VI

set_option linter.unusedVariables false
set_option linter.unusedSimpArgs false
set_option maxRecDepth 100000
namespace Go.VI
attribute [local congr] AW_congr OW_congr DW_congr NW_congr VW_congr GW_congr PW_congr KW_congr ite_congr' GV_congr CV_congr KF_congr
/-- The table of the laws. -/
noncomputable def ftX : FT
  | 48 => some (.go true 51 r48 c48)
  | 6 => some (.go true 135 r6 c6)
  | 7 => some (.go true 141 r7 c7)
  | 8 => some (.go true 88 r8 c8)
  | 10 => some (.go true 74 r10 c10)
  | 11 => some (.go true 74 r11 c11)
  | 12 => some (.go true 71 r12 c12)
  | k => ftM k
theorem ftX_sub : Sub ftM ftX := by
  intro k d h
  unfold ftX
  split
  all_goals first | exact h | (cases h; done)
theorem kX_of {f : AV} {args : List AV} {Q : AV → Heap → Prop} {v : AV} {H H' : Heap} (h : callL ft f args H = some (v, H')) : KW ftX f args H Q ↔ Q v H' := KW_of (callL_sub ftX_sub (callL_sub ftM_sub h))
theorem kX_om {f : AV} {args : List AV} {Q : AV → Heap → Prop} {v : AV} {H H' : Heap} (h : callL ftM f args H = some (v, H')) : KW ftX f args H Q ↔ Q v H' := KW_of (callL_sub ftX_sub h)
theorem few_len {l : List RunM} (h : few4 l = true) : l.length ≤ 60 := (few_clean h).1
theorem pages_len {l : List RunM} (h : few4 l = true) : (pagesM l).length ≤ 600 := by
  rw [pages_600 h]
  exact upto_len_le _ _
theorem countM_bd {l : List RunM} (h : l.length ≤ 1000) : 0 ≤ countM l ∧ countM l ≤ 32768000 := by
  have := sumM_bd (clean_may l)
  have h2 := cleanM_len l
  unfold countM
  omega
def cntM (b : List RunM) (P : List Int) : Nat := (P.filter fun p => hasM b p).length
theorem cnt_take {b : List RunM} {P : List Int} {i : Nat} (h : i < P.length) : cntM b (P.take (i + 1)) = if hasM b P[i] then cntM b (P.take i) + 1 else cntM b (P.take i) := by
  unfold cntM
  rw [List.take_succ_eq_append_getElem h, List.filter_append]
  cases e : hasM b P[i] <;> simp [e]
theorem cnt_le (b : List RunM) (P : List Int) : cntM b P ≤ P.length := List.length_filter_le _ _
theorem l12 (a b : List RunM) (hb : b.length ≤ 60) (P : List Int) (hP : P.length ≤ 600) {Q : AExit → Env → Heap → Prop}
   (hex : ∀ f' K, f' 5 = encR a → f' 6 = encR b → f' 7 = int (cntM b P) → Q (.exit 0) (mkE 71 f') (hx K [])) :
   ∀ (d i : Nat) (K : Heap) (f : Nat → AV), i + d = P.length → f 5 = encR a → f 6 = encR b → f 7 = int (cntM b (P.take i)) → f 24 = encN P → f 25 = int P.length → f 26 = int i →
    AW ftX (.loop c12L0) (mkE 71 f) (hx K []) Q := by
  intro d
  induction d with
  | zero =>
    intro i K f hd q5 q6 q7 q24 q25 q26
    have g1 : ((i : Int) < P.length) = False := eq_false (by omega)
    rw [List.take_of_length_le (by omega)] at q7
    rw [AW_loop]
    unfold c12L0
    simp only [↓vp, vq0, vq1, vq2, vq3, vr0, vr1, vr2, vr3, vr4, vr5, vr6, vr7, vr8, vr9, vr10, vr11, vr12, vr13, vr14, vr15, vr16, vr17, vr18, vr19, vr20, vr21, vr22, vr23, vr24, vr25, vr26, vr27, vr28, vr29, vr30, vr31, vr32, vr33, vr34, opS, fpS, extO, okP, pack, nAl, allocA, shId, leaves, fillA, fillR, splice, Nat.reduceLT, Nat.reduceEqDiff, Nat.reduceLeDiff, Nat.reduceAdd, Nat.reduceSub, Nat.reduceMul, Int.reduceBEq, Int.reduceBNe, Int.reduceLT, Int.reduceLE, Int.reduceEq, reduceIte, reduceCtorEq, da, int, boolA, q25, q26, g1]
    refine hex _ K ?_ ?_ ?_ <;> simp only [↓vp, vq0, vq1, vq2, vq3, vr0, vr1, vr2, vr3, vr4, vr5, vr6, vr7, vr8, vr9, vr10, vr11, vr12, vr13, vr14, vr15, vr16, vr17, vr18, vr19, vr20, vr21, vr22, vr23, vr24, vr25, vr26, vr27, vr28, vr29, vr30, vr31, vr32, vr33, vr34, opS, fpS, extO, okP, pack, nAl, allocA, shId, leaves, fillA, fillR, splice, Nat.reduceLT, Nat.reduceEqDiff, Nat.reduceLeDiff, Nat.reduceAdd, Nat.reduceSub, Nat.reduceMul, Int.reduceBEq, Int.reduceBNe, Int.reduceLT, Int.reduceLE, Int.reduceEq, reduceIte, reduceCtorEq, da, int, boolA, q5, q6, q7]
  | succ d ih =>
    intro i K f hd q5 q6 q7 q24 q25 q26
    have g1 : ((i : Int) < P.length) = True := eq_true (by omega)
    have gi : i < P.length := by omega
    have w1 := wrap_succ (show i < 9223372036854775807 by omega)
    have kh := fun K L Q => @kX_om _ _ Q _ _ _ (s44 b (by omega) P[i] (hx K L))
    have hc := cnt_take (b := b) gi
    have hle := cnt_le b (P.take i)
    rw [List.length_take] at hle
    have w2 := wrap_succ (show cntM b (P.take i) < 9223372036854775807 by omega)
    simp only [int] at kh
    rw [AW_loop]
    unfold c12L0
    cases e : hasM b P[i] with
    | true =>
      rw [e] at kh hc
      rw [if_pos rfl] at hc
      simp only [↓vp, vq0, vq1, vq2, vq3, vr0, vr1, vr2, vr3, vr4, vr5, vr6, vr7, vr8, vr9, vr10, vr11, vr12, vr13, vr14, vr15, vr16, vr17, vr18, vr19, vr20, vr21, vr22, vr23, vr24, vr25, vr26, vr27, vr28, vr29, vr30, vr31, vr32, vr33, vr34, opS, fpS, extO, okP, pack, nAl, allocA, shId, leaves, fillA, fillR, splice, Nat.reduceLT, Nat.reduceEqDiff, Nat.reduceLeDiff, Nat.reduceAdd, Nat.reduceSub, Nat.reduceMul, Int.reduceBEq, Int.reduceBNe, Int.reduceLT, Int.reduceLE, Int.reduceEq, reduceIte, reduceCtorEq, da, int, boolA, dr, q5, q6, q7, q24, q25, q26, g1, w1, w2, atN gi, cN gi, numC, kh]
      rw [← hx_nil (hx K _)]
      refine ih (i + 1) _ _ (by omega) ?_ ?_ ?_ ?_ ?_ ?_ <;> simp only [↓vp, vq0, vq1, vq2, vq3, vr0, vr1, vr2, vr3, vr4, vr5, vr6, vr7, vr8, vr9, vr10, vr11, vr12, vr13, vr14, vr15, vr16, vr17, vr18, vr19, vr20, vr21, vr22, vr23, vr24, vr25, vr26, vr27, vr28, vr29, vr30, vr31, vr32, vr33, vr34, opS, fpS, extO, okP, pack, nAl, allocA, shId, leaves, fillA, fillR, splice, Nat.reduceLT, Nat.reduceEqDiff, Nat.reduceLeDiff, Nat.reduceAdd, Nat.reduceSub, Nat.reduceMul, Int.reduceBEq, Int.reduceBNe, Int.reduceLT, Int.reduceLE, Int.reduceEq, reduceIte, reduceCtorEq, da, int, boolA, q5, q6, q24, q25, hc]
    | false =>
      rw [e] at kh hc
      rw [if_neg (by simp)] at hc
      simp only [↓vp, vq0, vq1, vq2, vq3, vr0, vr1, vr2, vr3, vr4, vr5, vr6, vr7, vr8, vr9, vr10, vr11, vr12, vr13, vr14, vr15, vr16, vr17, vr18, vr19, vr20, vr21, vr22, vr23, vr24, vr25, vr26, vr27, vr28, vr29, vr30, vr31, vr32, vr33, vr34, opS, fpS, extO, okP, pack, nAl, allocA, shId, leaves, fillA, fillR, splice, Nat.reduceLT, Nat.reduceEqDiff, Nat.reduceLeDiff, Nat.reduceAdd, Nat.reduceSub, Nat.reduceMul, Int.reduceBEq, Int.reduceBNe, Int.reduceLT, Int.reduceLE, Int.reduceEq, reduceIte, reduceCtorEq, da, int, boolA, dr, q5, q6, q7, q24, q25, q26, g1, w1, atN gi, cN gi, numC, kh]
      rw [← hx_nil (hx K _)]
      refine ih (i + 1) _ _ (by omega) ?_ ?_ ?_ ?_ ?_ ?_ <;> simp only [↓vp, vq0, vq1, vq2, vq3, vr0, vr1, vr2, vr3, vr4, vr5, vr6, vr7, vr8, vr9, vr10, vr11, vr12, vr13, vr14, vr15, vr16, vr17, vr18, vr19, vr20, vr21, vr22, vr23, vr24, vr25, vr26, vr27, vr28, vr29, vr30, vr31, vr32, vr33, vr34, opS, fpS, extO, okP, pack, nAl, allocA, shId, leaves, fillA, fillR, splice, Nat.reduceLT, Nat.reduceEqDiff, Nat.reduceLeDiff, Nat.reduceAdd, Nat.reduceSub, Nat.reduceMul, Int.reduceBEq, Int.reduceBNe, Int.reduceLT, Int.reduceLE, Int.reduceEq, reduceIte, reduceCtorEq, da, int, boolA, q5, q6, q7, q24, q25, hc]
theorem s12 (a b : List RunM) (H : Heap) : callL ftX (.fn (.func 12) [] []) [encR a, encR b] H = some (boolA true, H) := by
  refine call_p (as' := [encR a, encR b]) rfl rfl (by simp) ?_
  unfold c12 r12
  have ka := fun K L Q => @kX_of _ _ Q _ _ _ (s35 a (hx K L))
  have kb := fun K L Q => @kX_of _ _ Q _ _ _ (s35 b (hx K L))
  have kA := fun K L Q => @kX_om _ _ Q _ _ _ (s36 (hx K L))
  simp only [int, boolA] at ka kb kA
  cases fa : few4 a with
  | false =>
    rw [fa] at ka
    simp only [↓vp, vq0, vq1, vq2, vq3, vr0, vr1, vr2, vr3, vr4, vr5, vr6, vr7, vr8, vr9, vr10, vr11, vr12, vr13, vr14, vr15, vr16, vr17, vr18, vr19, vr20, vr21, vr22, vr23, vr24, vr25, vr26, vr27, vr28, vr29, vr30, vr31, vr32, vr33, vr34, opS, fpS, extO, okP, pack, nAl, allocA, shId, leaves, fillA, fillR, splice, Nat.reduceLT, Nat.reduceEqDiff, Nat.reduceLeDiff, Nat.reduceAdd, Nat.reduceSub, Nat.reduceMul, Int.reduceBEq, Int.reduceBNe, Int.reduceLT, Int.reduceLE, Int.reduceEq, reduceIte, reduceCtorEq, da, int, boolA, RetP_go, resT, resC, resN, retV1, retV2, retV3, retV0, frzFZ, takeM, Option.some.injEq, dr, ka, kA]
  | true =>
    rw [fa] at ka
    cases fb : few4 b with
    | false =>
      rw [fb] at kb
      simp only [↓vp, vq0, vq1, vq2, vq3, vr0, vr1, vr2, vr3, vr4, vr5, vr6, vr7, vr8, vr9, vr10, vr11, vr12, vr13, vr14, vr15, vr16, vr17, vr18, vr19, vr20, vr21, vr22, vr23, vr24, vr25, vr26, vr27, vr28, vr29, vr30, vr31, vr32, vr33, vr34, opS, fpS, extO, okP, pack, nAl, allocA, shId, leaves, fillA, fillR, splice, Nat.reduceLT, Nat.reduceEqDiff, Nat.reduceLeDiff, Nat.reduceAdd, Nat.reduceSub, Nat.reduceMul, Int.reduceBEq, Int.reduceBNe, Int.reduceLT, Int.reduceLE, Int.reduceEq, reduceIte, reduceCtorEq, da, int, boolA, RetP_go, resT, resC, resN, retV1, retV2, retV3, retV0, frzFZ, takeM, Option.some.injEq, dr, ka, kb, kA]
    | true =>
      rw [fb] at kb
      have la := few_len fa
      have lb := few_len fb
      have ka9 := fun K L Q => @kX_of _ _ Q _ _ _ (s39 a (by omega) (hx K L))
      have kb9 := fun K L Q => @kX_of _ _ Q _ _ _ (s39 b (by omega) (hx K L))
      have kp := fun K L Q => @kX_of _ _ Q _ _ _ (s38 a (by omega) (hx K L))
      have hP := pages_len fa
      simp only [↓vp, vq0, vq1, vq2, vq3, vr0, vr1, vr2, vr3, vr4, vr5, vr6, vr7, vr8, vr9, vr10, vr11, vr12, vr13, vr14, vr15, vr16, vr17, vr18, vr19, vr20, vr21, vr22, vr23, vr24, vr25, vr26, vr27, vr28, vr29, vr30, vr31, vr32, vr33, vr34, opS, fpS, extO, okP, pack, nAl, allocA, shId, leaves, fillA, fillR, splice, Nat.reduceLT, Nat.reduceEqDiff, Nat.reduceLeDiff, Nat.reduceAdd, Nat.reduceSub, Nat.reduceMul, Int.reduceBEq, Int.reduceBNe, Int.reduceLT, Int.reduceLE, Int.reduceEq, reduceIte, reduceCtorEq, da, int, boolA, dr, ka, kb, ka9, kb9, kp]
      rw [← hx_nil (Heap.empty)]
      refine l12 a b lb (pagesM a) hP (fun f' K q5 q6 q7 => ?_) (pagesM a).length 0 _ _ (by simp) ?_ ?_ ?_ ?_ ?_ ?_
      · unfold c12R1
        have hu := unionM_len a b
        have kca := fun K L Q => @kX_of _ _ Q _ _ _ (s42 a (by omega) (hx K L))
        have kcb := fun K L Q => @kX_of _ _ Q _ _ _ (s42 b (by omega) (hx K L))
        have ku := fun K L Q => @kX_of _ _ Q _ _ _ (s52 a b (by omega) (by omega) (hx K L))
        have kcu := fun K L Q => @kX_of _ _ Q _ _ _ (s42 (unionM a b) (by omega) (hx K L))
        have km := fun K L Q => @kX_om _ _ Q _ _ _ (s53 a b (by omega) (by omega) (hx K L))
        have kea := fun K L Q => @kX_of _ _ Q _ _ _ (s43 a (by omega) (hx K L))
        have keb := fun K L Q => @kX_of _ _ Q _ _ _ (s43 b (by omega) (hx K L))
        have keu := fun K L Q => @kX_of _ _ Q _ _ _ (s43 (unionM a b) (by omega) (hx K L))
        have b1 := countM_bd (l := a) (by omega)
        have b2 := countM_bd (l := b) (by omega)
        have b3 := countM_bd (l := unionM a b) (by omega)
        have b4 := cnt_le b (pagesM a)
        have e1 := counts a b
        have e2 := meet_counts a b
        have e3 := ends_union a b
        have w1 : IntKind.i64.wrap (countM a + countM b) = countM a + countM b := wrap_i64 (by omega)
        have w2 : IntKind.i64.wrap (countM (unionM a b) + (cntM b (pagesM a) : Nat)) = countM a + countM b := by rw [e1]; exact wrap_i64 (by omega)
        have e2' : meetM a b = decide ((0 : Int) < (cntM b (pagesM a) : Nat)) := e2
        rw [e3] at keu
        unfold mxM at keu
        cases hm : meetM a b with
        | true =>
          rw [hm] at km e2'
          have gp : ((cntM b (pagesM a) : Int) > 0) = True := eq_true (by simpa using e2'.symm)
          simp only [int, boolA] at kca kcb ku kcu km kea keb keu
          simp only [↓vp, vq0, vq1, vq2, vq3, vr0, vr1, vr2, vr3, vr4, vr5, vr6, vr7, vr8, vr9, vr10, vr11, vr12, vr13, vr14, vr15, vr16, vr17, vr18, vr19, vr20, vr21, vr22, vr23, vr24, vr25, vr26, vr27, vr28, vr29, vr30, vr31, vr32, vr33, vr34, opS, fpS, extO, okP, pack, nAl, allocA, shId, leaves, fillA, fillR, splice, Nat.reduceLT, Nat.reduceEqDiff, Nat.reduceLeDiff, Nat.reduceAdd, Nat.reduceSub, Nat.reduceMul, Int.reduceBEq, Int.reduceBNe, Int.reduceLT, Int.reduceLE, Int.reduceEq, reduceIte, reduceCtorEq, da, int, boolA, RetP_go, resT, resC, resN, retV1, retV2, retV3, retV0, frzFZ, takeM, Option.some.injEq, dr, q5, q6, q7, kA, kca, kcb, ku, kcu, km, kea, keb, keu, w1, w2, gp, beq_self_eq_true]
        | false =>
          rw [hm] at km e2'
          have gp : ((cntM b (pagesM a) : Int) > 0) = False := eq_false (by simpa using e2'.symm)
          simp only [int, boolA] at kca kcb ku kcu km kea keb keu
          simp only [↓vp, vq0, vq1, vq2, vq3, vr0, vr1, vr2, vr3, vr4, vr5, vr6, vr7, vr8, vr9, vr10, vr11, vr12, vr13, vr14, vr15, vr16, vr17, vr18, vr19, vr20, vr21, vr22, vr23, vr24, vr25, vr26, vr27, vr28, vr29, vr30, vr31, vr32, vr33, vr34, opS, fpS, extO, okP, pack, nAl, allocA, shId, leaves, fillA, fillR, splice, Nat.reduceLT, Nat.reduceEqDiff, Nat.reduceLeDiff, Nat.reduceAdd, Nat.reduceSub, Nat.reduceMul, Int.reduceBEq, Int.reduceBNe, Int.reduceLT, Int.reduceLE, Int.reduceEq, reduceIte, reduceCtorEq, da, int, boolA, RetP_go, resT, resC, resN, retV1, retV2, retV3, retV0, frzFZ, takeM, Option.some.injEq, dr, q5, q6, q7, kA, kca, kcb, ku, kcu, km, kea, keb, keu, w1, w2, gp, beq_self_eq_true]
      all_goals first | rfl | (simp only [↓vp, vq0, vq1, vq2, vq3, vr0, vr1, vr2, vr3, vr4, vr5, vr6, vr7, vr8, vr9, vr10, vr11, vr12, vr13, vr14, vr15, vr16, vr17, vr18, vr19, vr20, vr21, vr22, vr23, vr24, vr25, vr26, vr27, vr28, vr29, vr30, vr31, vr32, vr33, vr34, opS, fpS, extO, okP, pack, nAl, allocA, shId, leaves, fillA, fillR, splice, Nat.reduceLT, Nat.reduceEqDiff, Nat.reduceLeDiff, Nat.reduceAdd, Nat.reduceSub, Nat.reduceMul, Int.reduceBEq, Int.reduceBNe, Int.reduceLT, Int.reduceLE, Int.reduceEq, reduceIte, reduceCtorEq, da, int, boolA]; done)
end Go.VI

set_option linter.unusedVariables false
set_option linter.unusedSimpArgs false
set_option maxRecDepth 100000
namespace Go.VI
attribute [local congr] AW_congr OW_congr DW_congr NW_congr VW_congr GW_congr PW_congr KW_congr ite_congr' GV_congr CV_congr KF_congr
theorem ofM_len (l : List Int) : (ofM l).length ≤ l.length := by
  have h := joinM_len (singM_may l)
  have h2 := singM_len l
  unfold ofM
  omega
theorem ofM_ext {a b : List Int} (h : ∀ p, p ∈ a ↔ p ∈ b) : ofM a = ofM b := by
  have h1 := ofM_ok a
  have h2 := ofM_ok b
  refine right_ext h1.1 h2.1 fun p => ?_
  rw [h1.2, h2.2]
  congr 1
  refine beq_iff' ?_
  rw [List.contains_iff_mem, List.contains_iff_mem]
  exact h p
theorem of_pages {l : List RunM} (h : rightM l = true) : ofM (pagesM l) = l := by
  have h1 := ofM_ok (pagesM l)
  refine right_ext h1.1 h fun p => ?_
  rw [h1.2]
  refine beq_iff' ?_
  rw [Bool.and_eq_true, Bool.and_eq_true, decide_eq_true_eq, decide_eq_true_eq, List.contains_iff_mem]
  unfold pagesM
  rw [pgsL_mem (clean_may l), clean_of h]
  exact ⟨fun k => k.2, fun k => ⟨in_pos (rgt_may h) k, k⟩⟩
theorem pages_rise (l : List RunM) : (pagesM l).Pairwise (· < ·) := by
  have hc := right_iff.1 (clean_right l)
  exact pgsL_rise hc.1 hc.2
theorem pages_le (l : List RunM) : (pagesM l).length ≤ 32768 := by
  rw [pages_upto (clean_lt l)]
  exact upto_len_le _ _
theorem l11 (A B : AV) (P : List Int) (hP : P.length ≤ 32768) (hr : P.Pairwise (· < ·)) {Q : AExit → Env → Heap → Prop}
   (hex : ∀ f' K, f' 6 = A → f' 7 = B → f' 8 = encN P → Q (.exit 0) (mkE 74 f') (hx K [])) :
   ∀ (d i : Nat) (K : Heap) (f : Nat → AV), (i + 1 + d = P.length ∨ (d = 0 ∧ P.length ≤ i + 1)) → f 6 = A → f 7 = B → f 8 = encN P → f 9 = int ((i + 1 : Nat) : Int) →
    AW ftX (.loop c11L0) (mkE 74 f) (hx K []) Q := by
  intro d
  induction d with
  | zero =>
    intro i K f hd q6 q7 q8 q9
    have g1 : (((i + 1 : Nat) : Int) < P.length) = False := eq_false (by omega)
    rw [AW_loop]
    unfold c11L0
    simp only [↓vp, vq0, vq1, vq2, vq3, vr0, vr1, vr2, vr3, vr4, vr5, vr6, vr7, vr8, vr9, vr10, vr11, vr12, vr13, vr14, vr15, vr16, vr17, vr18, vr19, vr20, vr21, vr22, vr23, vr24, vr25, vr26, vr27, vr28, vr29, vr30, vr31, vr32, vr33, vr34, opS, fpS, extO, okP, pack, nAl, allocA, shId, leaves, fillA, fillR, splice, Nat.reduceLT, Nat.reduceEqDiff, Nat.reduceLeDiff, Nat.reduceAdd, Nat.reduceSub, Nat.reduceMul, Int.reduceBEq, Int.reduceBNe, Int.reduceLT, Int.reduceLE, Int.reduceEq, reduceIte, reduceCtorEq, da, int, boolA, dr, q8, q9, g1]
    refine hex _ K ?_ ?_ ?_ <;> simp only [↓vp, vq0, vq1, vq2, vq3, vr0, vr1, vr2, vr3, vr4, vr5, vr6, vr7, vr8, vr9, vr10, vr11, vr12, vr13, vr14, vr15, vr16, vr17, vr18, vr19, vr20, vr21, vr22, vr23, vr24, vr25, vr26, vr27, vr28, vr29, vr30, vr31, vr32, vr33, vr34, opS, fpS, extO, okP, pack, nAl, allocA, shId, leaves, fillA, fillR, splice, Nat.reduceLT, Nat.reduceEqDiff, Nat.reduceLeDiff, Nat.reduceAdd, Nat.reduceSub, Nat.reduceMul, Int.reduceBEq, Int.reduceBNe, Int.reduceLT, Int.reduceLE, Int.reduceEq, reduceIte, reduceCtorEq, da, int, boolA, q6, q7, q8]
  | succ d ih =>
    intro i K f hd q6 q7 q8 q9
    have g1 : (((i + 1 : Nat) : Int) < P.length) = True := eq_true (by omega)
    have gi : i + 1 < P.length := by omega
    have gj : i < P.length := by omega
    have w1 := wrap_succ (show i + 1 < 9223372036854775807 by omega)
    have w2 : IntKind.i64.wrap (((i + 1 : Nat) : Int) - 1) = (i : Int) := by rw [wrap_i64 (by omega)]; omega
    have hlt := (List.pairwise_iff_getElem.1 hr) i (i + 1) gj gi (by omega)
    have g2 : (P[i] ≥ P[i + 1]) = False := eq_false (by omega)
    have g3 : (P[i + 1] ≤ P[i]) = False := eq_false (by omega)
    rw [AW_loop]
    unfold c11L0
    simp only [↓vp, vq0, vq1, vq2, vq3, vr0, vr1, vr2, vr3, vr4, vr5, vr6, vr7, vr8, vr9, vr10, vr11, vr12, vr13, vr14, vr15, vr16, vr17, vr18, vr19, vr20, vr21, vr22, vr23, vr24, vr25, vr26, vr27, vr28, vr29, vr30, vr31, vr32, vr33, vr34, opS, fpS, extO, okP, pack, nAl, allocA, shId, leaves, fillA, fillR, splice, Nat.reduceLT, Nat.reduceEqDiff, Nat.reduceLeDiff, Nat.reduceAdd, Nat.reduceSub, Nat.reduceMul, Int.reduceBEq, Int.reduceBNe, Int.reduceLT, Int.reduceLE, Int.reduceEq, reduceIte, reduceCtorEq, da, int, boolA, dr, q6, q7, q8, q9, g1, w1, w2, atN gi, cN gi, atN gj, cN gj, numC, g2, g3]
    rw [← hx_nil (hx K _)]
    refine ih (i + 1) _ _ (by omega) ?_ ?_ ?_ ?_ <;> simp only [↓vp, vq0, vq1, vq2, vq3, vr0, vr1, vr2, vr3, vr4, vr5, vr6, vr7, vr8, vr9, vr10, vr11, vr12, vr13, vr14, vr15, vr16, vr17, vr18, vr19, vr20, vr21, vr22, vr23, vr24, vr25, vr26, vr27, vr28, vr29, vr30, vr31, vr32, vr33, vr34, opS, fpS, extO, okP, pack, nAl, allocA, shId, leaves, fillA, fillR, splice, Nat.reduceLT, Nat.reduceEqDiff, Nat.reduceLeDiff, Nat.reduceAdd, Nat.reduceSub, Nat.reduceMul, Int.reduceBEq, Int.reduceBNe, Int.reduceLT, Int.reduceLE, Int.reduceEq, reduceIte, reduceCtorEq, da, int, boolA, q6, q7, q8]
theorem same_sf (l : List RunM) : sameM l l = true := by simp [sameM]
theorem t11 (pages : List Int) (hp : pages.length ≤ 200) (K : Heap) (e : Nat → AV) (q6 : e 6 = encR (ofM pages)) (q7 : e 7 = encR (ofM pages)) (q8 : e 8 = encN (pagesM (ofM pages))) : AW ftX c11R1 (mkE 74 e) (hx K []) (RetP r11 (boolA true)) := by
  unfold c11R1 r11
  have ha := ofM_ok pages
  have hal := ofM_len pages
  have hpl := pages_le (ofM pages)
  have kA := fun K L Q => @kX_om _ _ Q _ _ _ (s36 (hx K L))
  have k6 := fun K L Q => @kX_of _ _ Q _ _ _ (s46 (ofM pages) (by omega) (hx K L))
  have k5 := fun K L Q => @kX_of _ _ Q _ _ _ (s45 (ofM pages) (ofM pages) (by omega) (hx K L))
  have kr := fun K L Q => @kX_of _ _ Q _ _ _ (s40 (ofM pages) (by omega) (hx K L))
  have ko := fun K L Q => @kX_of _ _ Q _ _ _ (s47 (pagesM (ofM pages)) (by omega) (hx K L))
  rw [of_pages ha.1] at ko
  rw [ha.1] at kr
  rw [same_sf] at k5
  simp only [int, boolA] at kA k5 kr
  simp only [↓vp, vq0, vq1, vq2, vq3, vr0, vr1, vr2, vr3, vr4, vr5, vr6, vr7, vr8, vr9, vr10, vr11, vr12, vr13, vr14, vr15, vr16, vr17, vr18, vr19, vr20, vr21, vr22, vr23, vr24, vr25, vr26, vr27, vr28, vr29, vr30, vr31, vr32, vr33, vr34, opS, fpS, extO, okP, pack, nAl, allocA, shId, leaves, fillA, fillR, splice, Nat.reduceLT, Nat.reduceEqDiff, Nat.reduceLeDiff, Nat.reduceAdd, Nat.reduceSub, Nat.reduceMul, Int.reduceBEq, Int.reduceBNe, Int.reduceLT, Int.reduceLE, Int.reduceEq, reduceIte, reduceCtorEq, da, int, boolA, RetP_go, resT, resC, resN, retV1, retV2, retV3, retV0, frzFZ, takeM, Option.some.injEq, dr, q6, q7, q8, kA, k6, k5, kr, ko]
theorem s11 (pages : List Int) (k : Int) (H : Heap) : callL ftX (.fn (.func 11) [] []) [encN pages, int k] H = some (boolA true, H) := by
  refine call_p (as' := [encN pages, int k]) rfl rfl (by simp) ?_
  unfold c11 r11
  have kA := fun K L Q => @kX_om _ _ Q _ _ _ (s36 (hx K L))
  simp only [int, boolA] at kA
  by_cases c1 : (pages.length : Int) > 200
  · have d1 : ((pages.length : Int) > 200) = True := eq_true c1
    have d2 : (200 < (pages.length : Int)) = True := eq_true c1
    simp only [↓vp, vq0, vq1, vq2, vq3, vr0, vr1, vr2, vr3, vr4, vr5, vr6, vr7, vr8, vr9, vr10, vr11, vr12, vr13, vr14, vr15, vr16, vr17, vr18, vr19, vr20, vr21, vr22, vr23, vr24, vr25, vr26, vr27, vr28, vr29, vr30, vr31, vr32, vr33, vr34, opS, fpS, extO, okP, pack, nAl, allocA, shId, leaves, fillA, fillR, splice, Nat.reduceLT, Nat.reduceEqDiff, Nat.reduceLeDiff, Nat.reduceAdd, Nat.reduceSub, Nat.reduceMul, Int.reduceBEq, Int.reduceBNe, Int.reduceLT, Int.reduceLE, Int.reduceEq, reduceIte, reduceCtorEq, da, int, boolA, RetP_go, resT, resC, resN, retV1, retV2, retV3, retV0, frzFZ, takeM, Option.some.injEq, dr, d1, d2, kA]
  have d1 : ((pages.length : Int) > 200) = False := eq_false c1
  have d2 : (200 < (pages.length : Int)) = False := eq_false c1
  by_cases c2 : k < 0
  · simp only [↓vp, vq0, vq1, vq2, vq3, vr0, vr1, vr2, vr3, vr4, vr5, vr6, vr7, vr8, vr9, vr10, vr11, vr12, vr13, vr14, vr15, vr16, vr17, vr18, vr19, vr20, vr21, vr22, vr23, vr24, vr25, vr26, vr27, vr28, vr29, vr30, vr31, vr32, vr33, vr34, opS, fpS, extO, okP, pack, nAl, allocA, shId, leaves, fillA, fillR, splice, Nat.reduceLT, Nat.reduceEqDiff, Nat.reduceLeDiff, Nat.reduceAdd, Nat.reduceSub, Nat.reduceMul, Int.reduceBEq, Int.reduceBNe, Int.reduceLT, Int.reduceLE, Int.reduceEq, reduceIte, reduceCtorEq, da, int, boolA, RetP_go, resT, resC, resN, retV1, retV2, retV3, retV0, frzFZ, takeM, Option.some.injEq, dr, d1, d2, eq_true c2, kA]
  have d3 : (k < 0) = False := eq_false c2
  by_cases c3 : k ≥ (if 1 > (pages.length : Int) then 1 else (pages.length : Int))
  · have d4 : (k ≥ (if 1 > (pages.length : Int) then 1 else (pages.length : Int))) = True := eq_true c3
    have d5 : (k ≥ (if (pages.length : Int) < 1 then 1 else (pages.length : Int))) = True := eq_true c3
    have d6 : ((if (pages.length : Int) < 1 then 1 else (pages.length : Int)) ≤ k) = True := eq_true c3
    simp only [↓vp, vq0, vq1, vq2, vq3, vr0, vr1, vr2, vr3, vr4, vr5, vr6, vr7, vr8, vr9, vr10, vr11, vr12, vr13, vr14, vr15, vr16, vr17, vr18, vr19, vr20, vr21, vr22, vr23, vr24, vr25, vr26, vr27, vr28, vr29, vr30, vr31, vr32, vr33, vr34, opS, fpS, extO, okP, pack, nAl, allocA, shId, leaves, fillA, fillR, splice, Nat.reduceLT, Nat.reduceEqDiff, Nat.reduceLeDiff, Nat.reduceAdd, Nat.reduceSub, Nat.reduceMul, Int.reduceBEq, Int.reduceBNe, Int.reduceLT, Int.reduceLE, Int.reduceEq, reduceIte, reduceCtorEq, da, int, boolA, RetP_go, resT, resC, resN, retV1, retV2, retV3, retV0, frzFZ, takeM, Option.some.injEq, dr, d1, d2, d3, d4, d5, d6, kA]
  have hk : 0 ≤ k ∧ (k = 0 ∨ k < pages.length) := by
    split at c3 <;> omega
  obtain ⟨n, rfl⟩ : ∃ n : Nat, k = (n : Int) := ⟨k.toNat, by omega⟩
  have d4 : ((n : Int) ≥ (if 1 > (pages.length : Int) then 1 else (pages.length : Int))) = False := eq_false c3
  have d5 : ((n : Int) ≥ (if (pages.length : Int) < 1 then 1 else (pages.length : Int))) = False := eq_false c3
  have d6 : ((if (pages.length : Int) < 1 then 1 else (pages.length : Int)) ≤ (n : Int)) = False := eq_false c3
  have ha := ofM_ok pages
  have hal := ofM_len pages
  have ht : ofM (pages.drop n ++ pages) = ofM pages := ofM_ext fun p => by
    rw [List.mem_append]
    exact ⟨fun h => h.elim (fun h => List.mem_of_mem_drop h) id, .inr⟩
  have k47 := fun K L Q => @kX_of _ _ Q _ _ _ (s47 pages (by omega) (hx K L))
  have p47 := fun args K L Q => @KW_pure ftX 47 rfl args (hx K L) Q
  have kf1 : ∀ K L Q, KF ftX (.fn (.func 47) [] []) [encN pages] (hx K L) Q ↔ Q (encR (ofM pages)) (hx K L) := fun K L Q => k47 K L Q
  have kf2 : ∀ K L Q, KF ftX (.fn (.func 47) [] []) [.lst ((pages.drop n ++ pages).map numC)] (hx K L) Q ↔ Q (encR (ofM pages)) (hx K L) := fun K L Q => by
    have := @kX_of _ _ Q _ _ _ (s47 (pages.drop n ++ pages) (by simp; omega) (hx K L))
    rw [ht] at this
    exact this
  have kp := fun K L Q => @kX_of _ _ Q _ _ _ (s38 (ofM pages) (by omega) (hx K L))
  have hsl : ∀ H, sliceA H 1 (encN pages) (some (n : Int)) none none = some (.lst ((pages.drop n).map numC)) := fun H => by
    unfold sliceA boundsA encN
    simp only [Option.getD_some, Option.getD_none, List.length_map]
    rw [if_pos ⟨by omega, by omega, by omega, by omega⟩]
    simp only [Option.bind_some]
    rw [if_pos (.inr (by simp [allSz, numC]))]
    rw [Int.toNat_natCast, Int.toNat_natCast, ← List.map_drop, List.take_of_length_le (by simp)]
  have rN : ∀ H l, rowsOf H (encN l) = some (l.map numC) := fun _ _ => rfl
  have aN : ∀ l : List Int, allSz 1 (l.map numC) = true := fun l => by simp [allSz, numC]
  by_cases h0 : pages = []
  · subst h0
    have hn : n = 0 := by simp at hk; omega
    subst hn
    have m0 : ((0 : Nat) : Int) = 0 := rfl
    have i11 : ((1 : Int) ≤ 0) = False := eq_false (by omega)
    have hsl0 : ∀ H, sliceA H 1 (encN []) (some 0) none none = some (.lst []) := fun H => hsl H
    have kf3 : ∀ K L Q, KF ftX (.fn (.func 47) [] []) [.lst []] (hx K L) Q ↔ Q (encR (ofM [])) (hx K L) := fun K L Q => k47 K L Q
    simp only [↓vp, vq0, vq1, vq2, vq3, vr0, vr1, vr2, vr3, vr4, vr5, vr6, vr7, vr8, vr9, vr10, vr11, vr12, vr13, vr14, vr15, vr16, vr17, vr18, vr19, vr20, vr21, vr22, vr23, vr24, vr25, vr26, vr27, vr28, vr29, vr30, vr31, vr32, vr33, vr34, opS, fpS, extO, okP, pack, nAl, allocA, shId, leaves, fillA, fillR, splice, Nat.reduceLT, Nat.reduceEqDiff, Nat.reduceLeDiff, Nat.reduceAdd, Nat.reduceSub, Nat.reduceMul, Int.reduceBEq, Int.reduceBNe, Int.reduceLT, Int.reduceLE, Int.reduceEq, reduceIte, reduceCtorEq, da, int, boolA, dr, m0, i11, kA, opI1, opI0, toI, hsl0, rN, vemp, List.map_nil, List.length_nil, p47, kf1, kf3, kp]
    rw [← hx_nil (hx _ _)]
    refine l11 (encR (ofM [])) (encR (ofM [])) (pagesM (ofM [])) (pages_le _) (pages_rise _) (fun f' K q6 q7 q8 => ?_) ((pagesM (ofM [])).length - 1) 0 _ _ (by omega) ?_ ?_ ?_ ?_
    · simp only [↓vp, vq0, vq1, vq2, vq3, vr0, vr1, vr2, vr3, vr4, vr5, vr6, vr7, vr8, vr9, vr10, vr11, vr12, vr13, vr14, vr15, vr16, vr17, vr18, vr19, vr20, vr21, vr22, vr23, vr24, vr25, vr26, vr27, vr28, vr29, vr30, vr31, vr32, vr33, vr34, opS, fpS, extO, okP, pack, nAl, allocA, shId, leaves, fillA, fillR, splice, Nat.reduceLT, Nat.reduceEqDiff, Nat.reduceLeDiff, Nat.reduceAdd, Nat.reduceSub, Nat.reduceMul, Int.reduceBEq, Int.reduceBNe, Int.reduceLT, Int.reduceLE, Int.reduceEq, reduceIte, reduceCtorEq]
      exact t11 [] (by simp) K f' q6 q7 q8
    all_goals first | rfl | (simp only [↓vp, vq0, vq1, vq2, vq3, vr0, vr1, vr2, vr3, vr4, vr5, vr6, vr7, vr8, vr9, vr10, vr11, vr12, vr13, vr14, vr15, vr16, vr17, vr18, vr19, vr20, vr21, vr22, vr23, vr24, vr25, vr26, vr27, vr28, vr29, vr30, vr31, vr32, vr33, vr34, opS, fpS, extO, okP, pack, nAl, allocA, shId, leaves, fillA, fillR, splice, Nat.reduceLT, Nat.reduceEqDiff, Nat.reduceLeDiff, Nat.reduceAdd, Nat.reduceSub, Nat.reduceMul, Int.reduceBEq, Int.reduceBNe, Int.reduceLT, Int.reduceLE, Int.reduceEq, reduceIte, reduceCtorEq, da, int, boolA]; done)
  · have hp : 0 < pages.length := List.length_pos_iff.2 h0
    generalize hD : pages.drop n = D at *
    have hDl : D.length = pages.length - n := by rw [← hD, List.length_drop]
    have y1 : (D.length = 0) = False := eq_false (by omega)
    have y2 : (D.length * 8 ≤ 140737488355328) = True := eq_true (by omega)
    have y3 : ((D.length + pages.length) * 8 ≤ 140737488355328) = True := eq_true (by omega)
    have y4 : (D.length + pages.length ≤ D.length) = False := eq_false (by omega)
    have y5 : List.take D.length (D.map numC) = D.map numC := List.take_of_length_le (by simp)
    have y6 : List.take (D.length + pages.length) (D.map numC ++ pages.map numC) = (D ++ pages).map numC := by rw [List.map_append, List.take_of_length_le (by simp)]
    simp only [↓vp, vq0, vq1, vq2, vq3, vr0, vr1, vr2, vr3, vr4, vr5, vr6, vr7, vr8, vr9, vr10, vr11, vr12, vr13, vr14, vr15, vr16, vr17, vr18, vr19, vr20, vr21, vr22, vr23, vr24, vr25, vr26, vr27, vr28, vr29, vr30, vr31, vr32, vr33, vr34, opS, fpS, extO, okP, pack, nAl, allocA, shId, leaves, fillA, fillR, splice, Nat.reduceLT, Nat.reduceEqDiff, Nat.reduceLeDiff, Nat.reduceAdd, Nat.reduceSub, Nat.reduceMul, Int.reduceBEq, Int.reduceBNe, Int.reduceLT, Int.reduceLE, Int.reduceEq, reduceIte, reduceCtorEq, da, int, boolA, dr, d1, d2, d3, d4, d5, d6, kA, opI1, opI0, toI, hsl, rN, aN, vemp, y1, y2, y3, y4, y5, List.length_map, Nat.zero_add, List.drop_zero, Nat.le_refl, List.length_append, y6, p47, kf1, kf2, kp]
    rw [← hx_nil (hx _ _)]
    refine l11 (encR (ofM pages)) (encR (ofM pages)) (pagesM (ofM pages)) (pages_le _) (pages_rise _) (fun f' K q6 q7 q8 => ?_) ((pagesM (ofM pages)).length - 1) 0 _ _ (by omega) ?_ ?_ ?_ ?_
    · simp only [↓vp, vq0, vq1, vq2, vq3, vr0, vr1, vr2, vr3, vr4, vr5, vr6, vr7, vr8, vr9, vr10, vr11, vr12, vr13, vr14, vr15, vr16, vr17, vr18, vr19, vr20, vr21, vr22, vr23, vr24, vr25, vr26, vr27, vr28, vr29, vr30, vr31, vr32, vr33, vr34, opS, fpS, extO, okP, pack, nAl, allocA, shId, leaves, fillA, fillR, splice, Nat.reduceLT, Nat.reduceEqDiff, Nat.reduceLeDiff, Nat.reduceAdd, Nat.reduceSub, Nat.reduceMul, Int.reduceBEq, Int.reduceBNe, Int.reduceLT, Int.reduceLE, Int.reduceEq, reduceIte, reduceCtorEq]
      exact t11 pages (by omega) K f' q6 q7 q8
    all_goals first | rfl | (simp only [↓vp, vq0, vq1, vq2, vq3, vr0, vr1, vr2, vr3, vr4, vr5, vr6, vr7, vr8, vr9, vr10, vr11, vr12, vr13, vr14, vr15, vr16, vr17, vr18, vr19, vr20, vr21, vr22, vr23, vr24, vr25, vr26, vr27, vr28, vr29, vr30, vr31, vr32, vr33, vr34, opS, fpS, extO, okP, pack, nAl, allocA, shId, leaves, fillA, fillR, splice, Nat.reduceLT, Nat.reduceEqDiff, Nat.reduceLeDiff, Nat.reduceAdd, Nat.reduceSub, Nat.reduceMul, Int.reduceBEq, Int.reduceBNe, Int.reduceLT, Int.reduceLE, Int.reduceEq, reduceIte, reduceCtorEq, da, int, boolA]; done)
end Go.VI

set_option linter.unusedVariables false
set_option linter.unusedSimpArgs false
set_option maxRecDepth 100000
namespace Go.VI
attribute [local congr] AW_congr OW_congr DW_congr NW_congr VW_congr GW_congr PW_congr KW_congr ite_congr' GV_congr CV_congr KF_congr
def tab (n : Nat) (f : Nat → Bool) : List Bool := (List.range n).map f
theorem tab_len (n : Nat) (f : Nat → Bool) : (tab n f).length = n := by simp [tab]
theorem tab_at {n : Nat} {f : Nat → Bool} {p : Nat} (h : p < n) : (tab n f)[p]? = some (f p) := by simp [tab, h]
theorem tab_getD {n : Nat} {f : Nat → Bool} {p : Nat} (h : p < n) : (tab n f).getD p false = f p := by rw [List.getD_eq_getElem?_getD, tab_at h]; rfl
theorem tab_ext {n : Nat} {s : List Bool} {f : Nat → Bool} (hl : s.length = n) (h : ∀ p (hp : p < s.length), s[p] = f p) : s = tab n f := by
  refine List.ext_getElem? fun p => ?_
  rcases Nat.lt_or_ge p n with hp | hp
  · rw [tab_at hp, List.getElem?_eq_getElem (by omega), h]
  · rw [List.getElem?_eq_none (by omega), List.getElem?_eq_none (by rw [tab_len]; exact hp)]
theorem tab_congr {n : Nat} {f g : Nat → Bool} (h : ∀ p, p < n → f p = g p) : tab n f = tab n g := by
  unfold tab
  exact List.map_congr_left fun p hp => h p (List.mem_range.1 hp)
theorem tab_set {n k : Nat} {f g : Nat → Bool} {v : Bool} (hk : g k = v) (h : ∀ p, p < n → p ≠ k → g p = f p) : (tab n f).set k v = tab n g := by
  refine tab_ext (by rw [List.length_set, tab_len]) fun p hp => ?_
  rw [List.length_set, tab_len] at hp
  rw [List.getElem_set]
  split
  · rename_i e
    rw [← e, hk]
  · rename_i e
    rw [h p hp (fun q => e q.symm)]
    simp [tab]
/-- The cells of such a row. -/
def tabC (n : Nat) (f : Nat → Bool) : List (List AV) := (tab n f).map bitC
theorem tabC_len (n : Nat) (f : Nat → Bool) : (tabC n f).length = n := by simp [tabC, tab_len]
theorem tabC_at {n : Nat} {f : Nat → Bool} {p : Nat} (h : p < n) : (tabC n f)[p]? = some [.sc (.bool (f p))] := by
  unfold tabC
  rw [List.getElem?_map, tab_at h]
  rfl
theorem tabC_set {n k : Nat} {f g : Nat → Bool} {v : Bool} (hk : g k = v) (h : ∀ p, p < n → p ≠ k → g p = f p) : (tabC n f).set k [.sc (.bool v)] = tabC n g := by
  unfold tabC
  rw [← tab_set hk h, List.map_set]
  rfl
theorem tabC_congr {n : Nat} {f g : Nat → Bool} (h : ∀ p, p < n → f p = g p) : tabC n f = tabC n g := by unfold tabC; rw [tab_congr h]
theorem setM_tab (l : List RunM) (n : Nat) : setM l n = tab n fun p => inR (cleanM l) (p : Int) := by
  refine tab_ext (setM_len l n) fun p hp => ?_
  rw [setM_len] at hp
  have := setM_at l hp
  rw [List.getD_eq_getElem?_getD, List.getElem?_eq_getElem (by rw [setM_len]; exact hp)] at this
  exact this
/-- THE RUNS OF A ROW. -/
theorem runs_tab {n : Nat} (hn : n ≤ 32768) {f : Nat → Bool} {c : List RunM} (hc : rightM c = true) (hlt : ∀ p, inR c p = true → p < n) (h : ∀ p : Nat, p < n → f p = inR c (p : Int)) : runsM (tab n f) = c := by
  refine runsM_eq (by rw [tab_len]; exact hn) hc fun p => ?_
  refine beq_iff' ?_
  rw [Bool.and_eq_true, decide_eq_true_eq]
  constructor
  · intro hp
    have h1 := in_pos (rgt_may hc) hp
    have h2 := hlt p hp
    refine ⟨h1.1, ?_⟩
    rw [tab_getD (by omega), h _ (by omega), ← hp]
    congr 1
    omega
  · rintro ⟨h0, h1⟩
    rcases Nat.lt_or_ge p.toNat n with h2 | h2
    · rw [tab_getD h2, h _ h2] at h1
      rw [← h1]
      congr 1
      omega
    · rw [List.getD_eq_getElem?_getD, List.getElem?_eq_none (by rw [tab_len]; exact h2)] at h1
      cases h1
/-- A row that is finished. -/
theorem frz_tab {K : Heap} {id n : Nat} {fz : Bool} {f : Nat → Bool} (hg : K.get id = some (.row fz 1 (tabC n f))) (L : List Blk) :
    frzCells (hx K L) [.sl id 0 n] = some ([encT (tab n f)], hx (if fz then K else K.set id (.row true 1 (tabC n f))) L) := by
  have lid := Heap.get_lt hg
  rw [frzCells_eq, frzL_cons, frz_sl, hx_get_old K L id lid, hg]
  simp only
  rw [if_pos (by rw [tabC_len]; omega), List.drop_zero, List.take_of_length_le (by rw [tabC_len]; omega)]
  cases fz with
  | true => rfl
  | false =>
    simp only [Bool.false_eq_true, if_false, hx_set_old K L _ id lid]
    rfl
/-- Runs of a growing row. -/
theorem k48 {K : Heap} {id n : Nat} {fz : Bool} {f : Nat → Bool} (hg : K.get id = some (.row fz 1 (tabC n f))) (hn : n ≤ 100000) {c : List RunM} (hc : runsM (tab n f) = c) {L : List Blk} {Q : AV → Heap → Prop} :
    KW ftX (.fn (.func 48) [] []) [.sl id 0 n] (hx K L) Q ↔ Q (encR c) (hx (if fz then K else K.set id (.row true 1 (tabC n f))) L) := by
  subst hc
  exact KW_of (p48 rfl (tab n f) (by rw [tab_len]; exact hn) (frz_tab hg L))
/-- Set, as such a row. -/
theorem kset {l : List RunM} (hl : l.length ≤ 1000) {K : Heap} {L : List Blk} {Q : AV → Heap → Prop} : KW ftX (.fn (.func 37) [] []) [encR l, .sc (.int .i64 600)] (hx K L) Q ↔ Q (.sl (hx K L).next 0 600) (hx K (L ++ [.row false 1 (tabC 600 fun p => inR (cleanM l) (p : Int))])) := by
  rw [← hx_hx]
  have := @s37 l (by omega) 600 (by omega) (by omega) (hx K L)
  rw [setM_tab] at this
  exact kX_of this
end Go.VI

set_option linter.unusedVariables false
set_option linter.unusedSimpArgs false
set_option maxRecDepth 100000
namespace Go.VI
attribute [local congr] AW_congr OW_congr DW_congr NW_congr VW_congr GW_congr PW_congr KW_congr ite_congr' GV_congr CV_congr KF_congr
def bothT (f g : Nat → Bool) (i : Nat) : Bool := (List.range i).any fun p => f p && g p
theorem bothT_succ (f g : Nat → Bool) (i : Nat) : bothT f g (i + 1) = (bothT f g i || (f i && g i)) := by
  unfold bothT
  rw [List.range_succ, List.any_append]
  simp
def orT (f g : Nat → Bool) (i p : Nat) : Bool := f p || (decide (p < i) && g p)
theorem orT_set (f g : Nat → Bool) {n i : Nat} {v : Bool} (hv : v = (f i || g i)) : (tabC n (orT f g i)).set i [.sc (.bool v)] = tabC n (orT f g (i + 1)) := by
  refine tabC_set ?_ fun p _ hp => ?_
  · unfold orT
    rw [decide_eq_true (Nat.lt_succ_self i), Bool.true_and, hv]
  · unfold orT
    congr 2
    rw [decide_eq_decide]
    omega
theorem orT_at (f g : Nat → Bool) (i : Nat) : orT f g i i = f i := by
  unfold orT
  rw [decide_eq_false (Nat.lt_irrefl i), Bool.false_and, Bool.or_false]
theorem l8 (A B : AV) (f g : Nat → Bool) {Q : AExit → Env → Heap → Prop}
   (hex : ∀ f' K, K.get 0 = some (.row false 1 (tabC 600 (orT f g 600))) → f' 0 = A → f' 1 = B → f' 5 = .sl 0 0 600 → f' 7 = boolA (bothT f g 600) → Q (.exit 0) (mkE 88 f') (hx K [])) :
   ∀ (d i : Nat) (K : Heap) (e : Nat → AV), i + d = 600 → K.get 0 = some (.row false 1 (tabC 600 (orT f g i))) → K.get 1 = some (.row false 1 (tabC 600 g)) → e 0 = A → e 1 = B → e 5 = .sl 0 0 600 → e 6 = .sl 1 0 600 → e 7 = boolA (bothT f g i) → e 24 = int 600 → e 25 = int i →
    AW ftX (.loop c8L0) (mkE 88 e) (hx K []) Q := by
  intro d
  induction d with
  | zero =>
    intro i K e hd k0 k1 q0 q1 q5 q6 q7 q24 q25
    obtain rfl : i = 600 := by omega
    have g1 : (((600 : Nat) : Int) < 600) = False := eq_false (by omega)
    rw [AW_loop]
    unfold c8L0
    simp only [↓vp, vq0, vq1, vq2, vq3, vr0, vr1, vr2, vr3, vr4, vr5, vr6, vr7, vr8, vr9, vr10, vr11, vr12, vr13, vr14, vr15, vr16, vr17, vr18, vr19, vr20, vr21, vr22, vr23, vr24, vr25, vr26, vr27, vr28, vr29, vr30, vr31, vr32, vr33, vr34, opS, fpS, extO, okP, pack, nAl, allocA, shId, leaves, fillA, fillR, splice, Nat.reduceLT, Nat.reduceEqDiff, Nat.reduceLeDiff, Nat.reduceAdd, Nat.reduceSub, Nat.reduceMul, Int.reduceBEq, Int.reduceBNe, Int.reduceLT, Int.reduceLE, Int.reduceEq, reduceIte, reduceCtorEq, da, int, boolA, q24, q25, g1]
    refine hex _ K k0 ?_ ?_ ?_ ?_ <;> simp only [↓vp, vq0, vq1, vq2, vq3, vr0, vr1, vr2, vr3, vr4, vr5, vr6, vr7, vr8, vr9, vr10, vr11, vr12, vr13, vr14, vr15, vr16, vr17, vr18, vr19, vr20, vr21, vr22, vr23, vr24, vr25, vr26, vr27, vr28, vr29, vr30, vr31, vr32, vr33, vr34, opS, fpS, extO, okP, pack, nAl, allocA, shId, leaves, fillA, fillR, splice, Nat.reduceLT, Nat.reduceEqDiff, Nat.reduceLeDiff, Nat.reduceAdd, Nat.reduceSub, Nat.reduceMul, Int.reduceBEq, Int.reduceBNe, Int.reduceLT, Int.reduceLE, Int.reduceEq, reduceIte, reduceCtorEq, da, int, boolA, q0, q1, q5, q7]
  | succ d ih =>
    intro i K e hd k0 k1 q0 q1 q5 q6 q7 q24 q25
    have g1 : ((i : Int) < 600) = True := eq_true (by omega)
    have gi : i < 600 := by omega
    have w1 := wrap_succ (show i < 9223372036854775807 by omega)
    have G0 := fun L => get_old k0 L
    have G1 := fun L => get_old k1 L
    have i0 := fun L => ia_row (i := i) (len := 600) (G0 L) gi
    have i1 := fun L => ia_row (i := i) (len := 600) (G1 L) gi
    have r0 := tabC_at (f := orT f g i) gi
    have r1 := tabC_at (f := g) gi
    have c0 := fun L off n => cells_row (off := off) (n := n) (G0 L) r0
    have c1 := fun L off n => cells_row (off := off) (n := n) (G1 L) r1
    have lid := Heap.get_lt k0
    have gs : ∀ L b, (hx K L).set 0 b = hx (K.set 0 b) L := fun L b => hx_set_old K L b 0 lid
    have hb := bothT_succ f g i
    have hset := fun v hv => orT_set f g (n := 600) (i := i) (v := v) hv
    rw [orT_at] at r0 c0
    have fin : ∀ (e' : Nat → AV), e' 0 = A → e' 1 = B → e' 5 = .sl 0 0 600 → e' 6 = .sl 1 0 600 → e' 7 = boolA (bothT f g (i + 1)) → e' 24 = int 600 → e' 25 = int ((i + 1 : Nat) : Int) → AW ftX (.loop c8L0) (mkE 88 e') (hx (K.set 0 (.row false 1 (tabC 600 (orT f g (i + 1))))) []) Q := fun e' p0 p1 p5 p6 p7 p24 p25 => by
      refine ih (i + 1) _ e' (by omega) ?_ ?_ p0 p1 p5 p6 p7 p24 p25
      · rw [Heap.get_set_self _ lid]
      · rw [Heap.get_set_ne _ (by omega), k1]
    rw [AW_loop]
    unfold c8L0
    cases ef : f i <;> cases eg : g i <;> cases eb : bothT f g i <;> rw [ef, eg, eb] at hb <;> rw [ef] at r0 c0 <;> rw [eg] at r1 c1 <;> rw [eb] at q7
    all_goals
      have hs := hset _ rfl
      rw [ef, eg] at hs
      simp only [Bool.or_false, Bool.or_true, Bool.false_or, Bool.true_or, Bool.and_true, Bool.and_false, Bool.and_self, Bool.or_self] at hs hb
      simp only [↓vp, vq0, vq1, vq2, vq3, vr0, vr1, vr2, vr3, vr4, vr5, vr6, vr7, vr8, vr9, vr10, vr11, vr12, vr13, vr14, vr15, vr16, vr17, vr18, vr19, vr20, vr21, vr22, vr23, vr24, vr25, vr26, vr27, vr28, vr29, vr30, vr31, vr32, vr33, vr34, opS, fpS, extO, okP, pack, nAl, allocA, shId, leaves, fillA, fillR, splice, Nat.reduceLT, Nat.reduceEqDiff, Nat.reduceLeDiff, Nat.reduceAdd, Nat.reduceSub, Nat.reduceMul, Int.reduceBEq, Int.reduceBNe, Int.reduceLT, Int.reduceLE, Int.reduceEq, reduceIte, reduceCtorEq, da, int, boolA, dr, q0, q1, q5, q6, q7, q24, q25, g1, i0, i1, c0, c1, w1, G0, G1, r0, gs, hs]
      refine fin _ ?_ ?_ ?_ ?_ ?_ ?_ ?_ <;> simp only [↓vp, vq0, vq1, vq2, vq3, vr0, vr1, vr2, vr3, vr4, vr5, vr6, vr7, vr8, vr9, vr10, vr11, vr12, vr13, vr14, vr15, vr16, vr17, vr18, vr19, vr20, vr21, vr22, vr23, vr24, vr25, vr26, vr27, vr28, vr29, vr30, vr31, vr32, vr33, vr34, opS, fpS, extO, okP, pack, nAl, allocA, shId, leaves, fillA, fillR, splice, Nat.reduceLT, Nat.reduceEqDiff, Nat.reduceLeDiff, Nat.reduceAdd, Nat.reduceSub, Nat.reduceMul, Int.reduceBEq, Int.reduceBNe, Int.reduceLT, Int.reduceLE, Int.reduceEq, reduceIte, reduceCtorEq, da, int, boolA, q0, q1, q5, q6, q7, q24, hb]
theorem s8 (a b : List RunM) (H : Heap) : callL ftX (.fn (.func 8) [] []) [encR a, encR b] H = some (boolA true, H) := by
  refine call_p (as' := [encR a, encR b]) rfl rfl (by simp) ?_
  unfold c8 r8
  have ka := fun K L Q => @kX_of _ _ Q _ _ _ (s35 a (hx K L))
  have kb := fun K L Q => @kX_of _ _ Q _ _ _ (s35 b (hx K L))
  have kA := fun K L Q => @kX_om _ _ Q _ _ _ (s36 (hx K L))
  simp only [int, boolA] at ka kb kA
  cases fa : few4 a with
  | false =>
    rw [fa] at ka
    simp only [↓vp, vq0, vq1, vq2, vq3, vr0, vr1, vr2, vr3, vr4, vr5, vr6, vr7, vr8, vr9, vr10, vr11, vr12, vr13, vr14, vr15, vr16, vr17, vr18, vr19, vr20, vr21, vr22, vr23, vr24, vr25, vr26, vr27, vr28, vr29, vr30, vr31, vr32, vr33, vr34, opS, fpS, extO, okP, pack, nAl, allocA, shId, leaves, fillA, fillR, splice, Nat.reduceLT, Nat.reduceEqDiff, Nat.reduceLeDiff, Nat.reduceAdd, Nat.reduceSub, Nat.reduceMul, Int.reduceBEq, Int.reduceBNe, Int.reduceLT, Int.reduceLE, Int.reduceEq, reduceIte, reduceCtorEq, da, int, boolA, RetP_go, resT, resC, resN, retV1, retV2, retV3, retV0, frzFZ, takeM, Option.some.injEq, dr, ka, kA]
  | true =>
    rw [fa] at ka
    cases fb : few4 b with
    | false =>
      rw [fb] at kb
      simp only [↓vp, vq0, vq1, vq2, vq3, vr0, vr1, vr2, vr3, vr4, vr5, vr6, vr7, vr8, vr9, vr10, vr11, vr12, vr13, vr14, vr15, vr16, vr17, vr18, vr19, vr20, vr21, vr22, vr23, vr24, vr25, vr26, vr27, vr28, vr29, vr30, vr31, vr32, vr33, vr34, opS, fpS, extO, okP, pack, nAl, allocA, shId, leaves, fillA, fillR, splice, Nat.reduceLT, Nat.reduceEqDiff, Nat.reduceLeDiff, Nat.reduceAdd, Nat.reduceSub, Nat.reduceMul, Int.reduceBEq, Int.reduceBNe, Int.reduceLT, Int.reduceLE, Int.reduceEq, reduceIte, reduceCtorEq, da, int, boolA, RetP_go, resT, resC, resN, retV1, retV2, retV3, retV0, frzFZ, takeM, Option.some.injEq, dr, ka, kb, kA]
    | true =>
      rw [fb] at kb
      have la := few_len fa
      have lb := few_len fb
      have hfa := (few_clean fa).2
      have hfb := (few_clean fb).2
      have ksa := fun K L Q => @kset a (by omega) K L Q
      have ksb := fun K L Q => @kset b (by omega) K L Q
      have hz : tabC 600 (orT (fun p => inR (cleanM a) (p : Int)) (fun p => inR (cleanM b) (p : Int)) 0) = tabC 600 (fun p => inR (cleanM a) (p : Int)) := tabC_congr fun p _ => by unfold orT; rw [decide_eq_false (Nat.not_lt_zero p), Bool.false_and, Bool.or_false]
      simp only [↓vp, vq0, vq1, vq2, vq3, vr0, vr1, vr2, vr3, vr4, vr5, vr6, vr7, vr8, vr9, vr10, vr11, vr12, vr13, vr14, vr15, vr16, vr17, vr18, vr19, vr20, vr21, vr22, vr23, vr24, vr25, vr26, vr27, vr28, vr29, vr30, vr31, vr32, vr33, vr34, opS, fpS, extO, okP, pack, nAl, allocA, shId, leaves, fillA, fillR, splice, Nat.reduceLT, Nat.reduceEqDiff, Nat.reduceLeDiff, Nat.reduceAdd, Nat.reduceSub, Nat.reduceMul, Int.reduceBEq, Int.reduceBNe, Int.reduceLT, Int.reduceLE, Int.reduceEq, reduceIte, reduceCtorEq, da, int, boolA, dr, ka, kb, ksa, ksb]
      rw [← hx_nil (hx _ _)]
      refine l8 (encR a) (encR b) (fun p => inR (cleanM a) (p : Int)) (fun p => inR (cleanM b) (p : Int)) (fun f' K k0 q0 q1 q5 q7 => ?_) 600 0 _ _ rfl ?_ ?_ ?_ ?_ ?_ ?_ ?_ ?_ ?_
      · unfold c8R1
        have hu := unionM_len a b
        have hok := unionM_ok a b
        have ka9 := fun K L Q => @kX_of _ _ Q _ _ _ (s39 a (by omega) (hx K L))
        have kb9 := fun K L Q => @kX_of _ _ Q _ _ _ (s39 b (by omega) (hx K L))
        have ku := fun K L Q => @kX_of _ _ Q _ _ _ (s52 a b (by omega) (by omega) (hx K L))
        have kv := fun K L Q => @kX_of _ _ Q _ _ _ (s52 b a (by omega) (by omega) (hx K L))
        have k6 := fun K L Q => @kX_of _ _ Q _ _ _ (s46 (unionM a b) (by omega) (hx K L))
        have k5 := fun K L Q => @kX_of _ _ Q _ _ _ (s45 (unionM a b) (unionM a b) (by omega) (hx K L))
        have km := fun K L Q => @kX_om _ _ Q _ _ _ (s53 a b (by omega) (by omega) (hx K L))
        have hruns : runsM (tab 600 (orT (fun p => inR (cleanM a) (p : Int)) (fun p => inR (cleanM b) (p : Int)) 600)) = unionM a b := by
          refine runs_tab (by omega) hok.1 (fun p hp => ?_) fun p hp => ?_
          · rw [hok.2, Bool.or_eq_true] at hp
            rcases hp with hp | hp
            · exact few_lt hfa hp
            · exact few_lt hfb hp
          · rw [hok.2]
            unfold orT
            rw [decide_eq_true hp, Bool.true_and]
        have k8 := fun L Q => @k48 K 0 600 false _ k0 (by omega) _ hruns L Q
        have hm : meetM a b = bothT (fun p => inR (cleanM a) (p : Int)) (fun p => inR (cleanM b) (p : Int)) 600 := by
          refine beq_iff' ?_
          rw [meetM_iff]
          unfold bothT
          rw [List.any_eq_true]
          constructor
          · rintro ⟨p, h1, h2⟩
            have := in_pos (clean_may a) h1
            have := few_lt hfa h1
            refine ⟨p.toNat, List.mem_range.2 (by omega), ?_⟩
            show (inR (cleanM a) ((p.toNat : Nat) : Int) && inR (cleanM b) ((p.toNat : Nat) : Int)) = true
            rw [show ((p.toNat : Nat) : Int) = p by omega, h1, h2]
            rfl
          · rintro ⟨p, _, h⟩
            rw [Bool.and_eq_true] at h
            exact ⟨(p : Int), h.1, h.2⟩
        rw [unionM_comm b a] at kv
        rw [hm] at km
        have e5 : sameM (unionM a b) (unionM a b) = true := by simp [sameM]
        rw [e5] at k5
        simp only [int, boolA] at k5 km k8 q7
        cases em : bothT (fun p => inR (cleanM a) (p : Int)) (fun p => inR (cleanM b) (p : Int)) 600 <;> rw [em] at km q7
        all_goals simp only [↓vp, vq0, vq1, vq2, vq3, vr0, vr1, vr2, vr3, vr4, vr5, vr6, vr7, vr8, vr9, vr10, vr11, vr12, vr13, vr14, vr15, vr16, vr17, vr18, vr19, vr20, vr21, vr22, vr23, vr24, vr25, vr26, vr27, vr28, vr29, vr30, vr31, vr32, vr33, vr34, opS, fpS, extO, okP, pack, nAl, allocA, shId, leaves, fillA, fillR, splice, Nat.reduceLT, Nat.reduceEqDiff, Nat.reduceLeDiff, Nat.reduceAdd, Nat.reduceSub, Nat.reduceMul, Int.reduceBEq, Int.reduceBNe, Int.reduceLT, Int.reduceLE, Int.reduceEq, reduceIte, reduceCtorEq, da, int, boolA, RetP_go, resT, resC, resN, retV1, retV2, retV3, retV0, frzFZ, takeM, Option.some.injEq, dr, q0, q1, q5, q7, kA, ka9, kb9, ku, kv, k6, k5, km, k8]
      all_goals first | rfl | (simp only [↓vp, vq0, vq1, vq2, vq3, vr0, vr1, vr2, vr3, vr4, vr5, vr6, vr7, vr8, vr9, vr10, vr11, vr12, vr13, vr14, vr15, vr16, vr17, vr18, vr19, vr20, vr21, vr22, vr23, vr24, vr25, vr26, vr27, vr28, vr29, vr30, vr31, vr32, vr33, vr34, opS, fpS, extO, okP, pack, nAl, allocA, shId, leaves, fillA, fillR, splice, Nat.reduceLT, Nat.reduceEqDiff, Nat.reduceLeDiff, Nat.reduceAdd, Nat.reduceSub, Nat.reduceMul, Int.reduceBEq, Int.reduceBNe, Int.reduceLT, Int.reduceLE, Int.reduceEq, reduceIte, reduceCtorEq, da, int, boolA]; done) | (simp only [↓vp, vq0, vq1, vq2, vq3, vr0, vr1, vr2, vr3, vr4, vr5, vr6, vr7, vr8, vr9, vr10, vr11, vr12, vr13, vr14, vr15, vr16, vr17, vr18, vr19, vr20, vr21, vr22, vr23, vr24, vr25, vr26, vr27, vr28, vr29, vr30, vr31, vr32, vr33, vr34, opS, fpS, extO, okP, pack, nAl, allocA, shId, leaves, fillA, fillR, splice, Nat.reduceLT, Nat.reduceEqDiff, Nat.reduceLeDiff, Nat.reduceAdd, Nat.reduceSub, Nat.reduceMul, Int.reduceBEq, Int.reduceBNe, Int.reduceLT, Int.reduceLE, Int.reduceEq, reduceIte, reduceCtorEq, da, int, boolA, hz]; done)
end Go.VI

set_option linter.unusedVariables false
set_option linter.unusedSimpArgs false
set_option maxRecDepth 100000
namespace Go.VI
attribute [local congr] AW_congr OW_congr DW_congr NW_congr VW_congr GW_congr PW_congr KW_congr ite_congr' GV_congr CV_congr KF_congr
theorem l6 (A B C : AV) (f : Nat → Bool) {Q : AExit → Env → Heap → Prop}
   (hex : ∀ f' K, K.get 0 = some (.row false 1 (tabC 600 f)) → f' 0 = A → f' 1 = B → f' 2 = C → f' 7 = .sl 0 0 600 → f' 8 = int (upto f 600).length → f' 9 = int (endT f 600) → f' 10 = encN (upto f 600) → Q (.exit 0) (mkE 135 f') (hx K [])) :
   ∀ (d i : Nat) (K : Heap) (e : Nat → AV), i + d = 600 → K.get 0 = some (.row false 1 (tabC 600 f)) → e 0 = A → e 1 = B → e 2 = C → e 7 = .sl 0 0 600 → e 8 = int (upto f i).length → e 9 = int (endT f i) → e 10 = encN (upto f 600) → e 31 = .sl 0 0 600 → e 32 = int 600 → e 33 = int i →
    AW ftX (.loop c6L0) (mkE 135 e) (hx K []) Q := by
  intro d
  induction d with
  | zero =>
    intro i K e hd k0 q0 q1 q2 q7 q8 q9 q10 q31 q32 q33
    obtain rfl : i = 600 := by omega
    have g1 : (((600 : Nat) : Int) < 600) = False := eq_false (by omega)
    rw [AW_loop]
    unfold c6L0
    simp only [↓vp, vq0, vq1, vq2, vq3, vr0, vr1, vr2, vr3, vr4, vr5, vr6, vr7, vr8, vr9, vr10, vr11, vr12, vr13, vr14, vr15, vr16, vr17, vr18, vr19, vr20, vr21, vr22, vr23, vr24, vr25, vr26, vr27, vr28, vr29, vr30, vr31, vr32, vr33, vr34, opS, fpS, extO, okP, pack, nAl, allocA, shId, leaves, fillA, fillR, splice, Nat.reduceLT, Nat.reduceEqDiff, Nat.reduceLeDiff, Nat.reduceAdd, Nat.reduceSub, Nat.reduceMul, Int.reduceBEq, Int.reduceBNe, Int.reduceLT, Int.reduceLE, Int.reduceEq, reduceIte, reduceCtorEq, da, int, boolA, q32, q33, g1]
    refine hex _ K k0 ?_ ?_ ?_ ?_ ?_ ?_ ?_ <;> simp only [↓vp, vq0, vq1, vq2, vq3, vr0, vr1, vr2, vr3, vr4, vr5, vr6, vr7, vr8, vr9, vr10, vr11, vr12, vr13, vr14, vr15, vr16, vr17, vr18, vr19, vr20, vr21, vr22, vr23, vr24, vr25, vr26, vr27, vr28, vr29, vr30, vr31, vr32, vr33, vr34, opS, fpS, extO, okP, pack, nAl, allocA, shId, leaves, fillA, fillR, splice, Nat.reduceLT, Nat.reduceEqDiff, Nat.reduceLeDiff, Nat.reduceAdd, Nat.reduceSub, Nat.reduceMul, Int.reduceBEq, Int.reduceBNe, Int.reduceLT, Int.reduceLE, Int.reduceEq, reduceIte, reduceCtorEq, da, int, boolA, q0, q1, q2, q7, q8, q9, q10]
  | succ d ih =>
    intro i K e hd k0 q0 q1 q2 q7 q8 q9 q10 q31 q32 q33
    have g1 : ((i : Int) < 600) = True := eq_true (by omega)
    have gi : i < 600 := by omega
    have w1 := wrap_succ (show i < 9223372036854775807 by omega)
    have G0 := fun L => get_old k0 L
    have i0 := fun L => ia_row (i := i) (len := 600) (G0 L) gi
    have r0 := tabC_at (f := f) gi
    have c0 := fun L off n => cells_row (off := off) (n := n) (G0 L) r0
    have hs := upto_succ f i
    have he : endT f (i + 1) = if f i then ((i + 1 : Nat) : Int) else endT f i := rfl
    have hle := upto_len_le f i
    have w2 := wrap_succ (show (upto f i).length < 9223372036854775807 by omega)
    rw [AW_loop]
    unfold c6L0
    cases ef : f i with
    | false =>
      rw [ef] at r0 c0 hs he
      rw [if_neg (by simp)] at hs he
      simp only [↓vp, vq0, vq1, vq2, vq3, vr0, vr1, vr2, vr3, vr4, vr5, vr6, vr7, vr8, vr9, vr10, vr11, vr12, vr13, vr14, vr15, vr16, vr17, vr18, vr19, vr20, vr21, vr22, vr23, vr24, vr25, vr26, vr27, vr28, vr29, vr30, vr31, vr32, vr33, vr34, opS, fpS, extO, okP, pack, nAl, allocA, shId, leaves, fillA, fillR, splice, Nat.reduceLT, Nat.reduceEqDiff, Nat.reduceLeDiff, Nat.reduceAdd, Nat.reduceSub, Nat.reduceMul, Int.reduceBEq, Int.reduceBNe, Int.reduceLT, Int.reduceLE, Int.reduceEq, reduceIte, reduceCtorEq, da, int, boolA, dr, q31, q32, q33, g1, i0, c0, w1]
      refine ih (i + 1) K _ (by omega) k0 ?_ ?_ ?_ ?_ ?_ ?_ ?_ ?_ ?_ ?_ <;> simp only [↓vp, vq0, vq1, vq2, vq3, vr0, vr1, vr2, vr3, vr4, vr5, vr6, vr7, vr8, vr9, vr10, vr11, vr12, vr13, vr14, vr15, vr16, vr17, vr18, vr19, vr20, vr21, vr22, vr23, vr24, vr25, vr26, vr27, vr28, vr29, vr30, vr31, vr32, vr33, vr34, opS, fpS, extO, okP, pack, nAl, allocA, shId, leaves, fillA, fillR, splice, Nat.reduceLT, Nat.reduceEqDiff, Nat.reduceLeDiff, Nat.reduceAdd, Nat.reduceSub, Nat.reduceMul, Int.reduceBEq, Int.reduceBNe, Int.reduceLT, Int.reduceLE, Int.reduceEq, reduceIte, reduceCtorEq, da, int, boolA, q0, q1, q2, q7, q8, q9, q10, q31, q32, hs, he]
    | true =>
      rw [ef] at r0 c0 hs he
      rw [if_pos rfl] at hs he
      obtain ⟨t, ht, _⟩ := upto_pre f (show i + 1 ≤ 600 by omega)
      have gn : (upto f i).length < (upto f 600).length := by rw [ht, hs]; simp
      have hpn : (upto f 600)[(upto f i).length] = (i : Int) := by
        simp only [ht, hs]
        rw [List.getElem_append_left (by simp), List.getElem_append_right (Nat.le_refl _)]
        simp
      have aN := fun H => atN (H := H) gn
      have cN1 := fun H off n => cN (H := H) (off := off) (n := n) gn
      rw [hpn] at cN1
      have g2 : (((upto f i).length : Int) ≥ (upto f 600).length) = False := eq_false (by omega)
      have g3 : (((upto f 600).length : Int) ≤ (upto f i).length) = False := eq_false (by omega)
      have hl : (upto f (i + 1)).length = (upto f i).length + 1 := by rw [hs]; simp
      simp only [↓vp, vq0, vq1, vq2, vq3, vr0, vr1, vr2, vr3, vr4, vr5, vr6, vr7, vr8, vr9, vr10, vr11, vr12, vr13, vr14, vr15, vr16, vr17, vr18, vr19, vr20, vr21, vr22, vr23, vr24, vr25, vr26, vr27, vr28, vr29, vr30, vr31, vr32, vr33, vr34, opS, fpS, extO, okP, pack, nAl, allocA, shId, leaves, fillA, fillR, splice, Nat.reduceLT, Nat.reduceEqDiff, Nat.reduceLeDiff, Nat.reduceAdd, Nat.reduceSub, Nat.reduceMul, Int.reduceBEq, Int.reduceBNe, Int.reduceLT, Int.reduceLE, Int.reduceEq, reduceIte, reduceCtorEq, da, int, boolA, dr, q8, q10, q31, q32, q33, g1, i0, c0, w1, w2, g2, g3, aN, cN1, numC, bne_self_eq_false]
      refine ih (i + 1) K _ (by omega) k0 ?_ ?_ ?_ ?_ ?_ ?_ ?_ ?_ ?_ ?_ <;> simp only [↓vp, vq0, vq1, vq2, vq3, vr0, vr1, vr2, vr3, vr4, vr5, vr6, vr7, vr8, vr9, vr10, vr11, vr12, vr13, vr14, vr15, vr16, vr17, vr18, vr19, vr20, vr21, vr22, vr23, vr24, vr25, vr26, vr27, vr28, vr29, vr30, vr31, vr32, vr33, vr34, opS, fpS, extO, okP, pack, nAl, allocA, shId, leaves, fillA, fillR, splice, Nat.reduceLT, Nat.reduceEqDiff, Nat.reduceLeDiff, Nat.reduceAdd, Nat.reduceSub, Nat.reduceMul, Int.reduceBEq, Int.reduceBNe, Int.reduceLT, Int.reduceLE, Int.reduceEq, reduceIte, reduceCtorEq, da, int, boolA, q0, q1, q2, q7, q10, q31, q32, hl, he]
def hasT (P : List Int) (i p : Nat) : Bool := (P.take i).contains (p : Int)
theorem hasT_succ {P : List Int} {i : Nat} (h : i < P.length) (p : Nat) : hasT P (i + 1) p = (hasT P i p || decide (P[i] = (p : Int))) := by
  refine beq_iff' ?_
  unfold hasT
  rw [Bool.or_eq_true, decide_eq_true_eq, List.contains_iff_mem, List.contains_iff_mem, List.take_succ_eq_append_getElem h, List.mem_append]
  simp [eq_comm]
theorem l6b (A B C E F G : AV) (P : List Int) (hP : P.length ≤ 200) (f : Nat → Bool) (id : Nat) (hid : id ≠ 0) (N : Nat) (hN : N ≤ 100000) {Q : AExit → Env → Heap → Prop}
   (hex : ∀ f' K, K.get 0 = some (.row false 1 (tabC 600 f)) → K.get id = some (.row false 1 (tabC N (hasT P P.length))) → f' 0 = A → f' 1 = B → f' 2 = C → f' 7 = .sl 0 0 600 → f' 8 = E → f' 9 = F → f' 10 = G → f' 13 = .sl id 0 N → Q (.exit 2) (mkE 135 f') (hx K [])) :
   ∀ (d i : Nat) (K : Heap) (e : Nat → AV), i + d = P.length → K.get 0 = some (.row false 1 (tabC 600 f)) → K.get id = some (.row false 1 (tabC N (hasT P i))) → e 0 = A → e 1 = B → e 2 = C → e 7 = .sl 0 0 600 → e 8 = E → e 9 = F → e 10 = G → e 13 = .sl id 0 N → e 58 = encN P → e 59 = int P.length → e 60 = int i →
    AW ftX (.loop c6L1) (mkE 135 e) (hx K []) Q := by
  intro d
  induction d with
  | zero =>
    intro i K e hd k0 k1 q0 q1 q2 q7 q8 q9 q10 q13 q58 q59 q60
    obtain rfl : i = P.length := by omega
    have g1 : ((P.length : Int) < P.length) = False := eq_false (by omega)
    rw [AW_loop]
    unfold c6L1
    simp only [↓vp, vq0, vq1, vq2, vq3, vr0, vr1, vr2, vr3, vr4, vr5, vr6, vr7, vr8, vr9, vr10, vr11, vr12, vr13, vr14, vr15, vr16, vr17, vr18, vr19, vr20, vr21, vr22, vr23, vr24, vr25, vr26, vr27, vr28, vr29, vr30, vr31, vr32, vr33, vr34, opS, fpS, extO, okP, pack, nAl, allocA, shId, leaves, fillA, fillR, splice, Nat.reduceLT, Nat.reduceEqDiff, Nat.reduceLeDiff, Nat.reduceAdd, Nat.reduceSub, Nat.reduceMul, Int.reduceBEq, Int.reduceBNe, Int.reduceLT, Int.reduceLE, Int.reduceEq, reduceIte, reduceCtorEq, da, int, boolA, q59, q60, g1]
    refine hex _ K k0 k1 ?_ ?_ ?_ ?_ ?_ ?_ ?_ ?_ <;> simp only [↓vp, vq0, vq1, vq2, vq3, vr0, vr1, vr2, vr3, vr4, vr5, vr6, vr7, vr8, vr9, vr10, vr11, vr12, vr13, vr14, vr15, vr16, vr17, vr18, vr19, vr20, vr21, vr22, vr23, vr24, vr25, vr26, vr27, vr28, vr29, vr30, vr31, vr32, vr33, vr34, opS, fpS, extO, okP, pack, nAl, allocA, shId, leaves, fillA, fillR, splice, Nat.reduceLT, Nat.reduceEqDiff, Nat.reduceLeDiff, Nat.reduceAdd, Nat.reduceSub, Nat.reduceMul, Int.reduceBEq, Int.reduceBNe, Int.reduceLT, Int.reduceLE, Int.reduceEq, reduceIte, reduceCtorEq, da, int, boolA, q0, q1, q2, q7, q8, q9, q10, q13]
  | succ d ih =>
    intro i K e hd k0 k1 q0 q1 q2 q7 q8 q9 q10 q13 q58 q59 q60
    have g1 : ((i : Int) < P.length) = True := eq_true (by omega)
    have gi : i < P.length := by omega
    have w1 := wrap_succ (show i < 9223372036854775807 by omega)
    have hsu := hasT_succ gi
    have aN := fun H => atN (H := H) gi
    have cN1 := fun H off n => cN (H := H) (off := off) (n := n) gi
    have out : (P[i] < 0 ∨ (N : Int) ≤ P[i]) → tabC N (hasT P (i + 1)) = tabC N (hasT P i) := fun h => tabC_congr fun p hp => by
      rw [hsu, decide_eq_false (by omega), Bool.or_false]
    rw [AW_loop]
    unfold c6L1
    generalize hq : P[i] = q at *
    by_cases h0 : 0 ≤ q
    · have z1 : (q ≥ 0) = True := eq_true h0
      have z2 : (0 ≤ q) = True := eq_true h0
      by_cases h1 : q < (N : Int)
      · have z3 : (q < (N : Int)) = True := eq_true h1
        obtain ⟨m, rfl⟩ : ∃ m : Nat, q = (m : Int) := ⟨q.toNat, by omega⟩
        have gm : m < N := by omega
        have G1 := fun L => get_old k1 L
        have lid := Heap.get_lt k1
        have i1 := fun L => ia_row (i := m) (len := N) (G1 L) gm
        have r1 := tabC_at (f := hasT P i) gm
        have gs : ∀ L b, (hx K L).set id b = hx (K.set id b) L := fun L b => hx_set_old K L b id lid
        have hs : (tabC N (hasT P i)).set m [.sc (.bool true)] = tabC N (hasT P (i + 1)) := by
          refine tabC_set ?_ fun p _ hp => ?_
          · rw [hsu, decide_eq_true rfl, Bool.or_true]
          · rw [hsu, decide_eq_false (by omega), Bool.or_false]
        simp only [↓vp, vq0, vq1, vq2, vq3, vr0, vr1, vr2, vr3, vr4, vr5, vr6, vr7, vr8, vr9, vr10, vr11, vr12, vr13, vr14, vr15, vr16, vr17, vr18, vr19, vr20, vr21, vr22, vr23, vr24, vr25, vr26, vr27, vr28, vr29, vr30, vr31, vr32, vr33, vr34, opS, fpS, extO, okP, pack, nAl, allocA, shId, leaves, fillA, fillR, splice, Nat.reduceLT, Nat.reduceEqDiff, Nat.reduceLeDiff, Nat.reduceAdd, Nat.reduceSub, Nat.reduceMul, Int.reduceBEq, Int.reduceBNe, Int.reduceLT, Int.reduceLE, Int.reduceEq, reduceIte, reduceCtorEq, da, int, boolA, dr, q13, q58, q59, q60, g1, aN, cN1, numC, z1, z2, z3, i1, G1, r1, gs, hs, w1]
        refine ih (i + 1) (K.set id (.row false 1 (tabC N (hasT P (i + 1))))) _ (by omega) ?_ ?_ ?_ ?_ ?_ ?_ ?_ ?_ ?_ ?_ ?_ ?_ ?_
        · rw [Heap.get_set_ne _ (by omega), k0]
        · rw [Heap.get_set_self _ lid]
        all_goals simp only [↓vp, vq0, vq1, vq2, vq3, vr0, vr1, vr2, vr3, vr4, vr5, vr6, vr7, vr8, vr9, vr10, vr11, vr12, vr13, vr14, vr15, vr16, vr17, vr18, vr19, vr20, vr21, vr22, vr23, vr24, vr25, vr26, vr27, vr28, vr29, vr30, vr31, vr32, vr33, vr34, opS, fpS, extO, okP, pack, nAl, allocA, shId, leaves, fillA, fillR, splice, Nat.reduceLT, Nat.reduceEqDiff, Nat.reduceLeDiff, Nat.reduceAdd, Nat.reduceSub, Nat.reduceMul, Int.reduceBEq, Int.reduceBNe, Int.reduceLT, Int.reduceLE, Int.reduceEq, reduceIte, reduceCtorEq, da, int, boolA, q0, q1, q2, q7, q8, q9, q10, q13, q58, q59]
      · have z3 : (q < (N : Int)) = False := eq_false h1
        simp only [↓vp, vq0, vq1, vq2, vq3, vr0, vr1, vr2, vr3, vr4, vr5, vr6, vr7, vr8, vr9, vr10, vr11, vr12, vr13, vr14, vr15, vr16, vr17, vr18, vr19, vr20, vr21, vr22, vr23, vr24, vr25, vr26, vr27, vr28, vr29, vr30, vr31, vr32, vr33, vr34, opS, fpS, extO, okP, pack, nAl, allocA, shId, leaves, fillA, fillR, splice, Nat.reduceLT, Nat.reduceEqDiff, Nat.reduceLeDiff, Nat.reduceAdd, Nat.reduceSub, Nat.reduceMul, Int.reduceBEq, Int.reduceBNe, Int.reduceLT, Int.reduceLE, Int.reduceEq, reduceIte, reduceCtorEq, da, int, boolA, dr, q13, q58, q59, q60, g1, aN, cN1, numC, z1, z2, z3, w1]
        refine ih (i + 1) K _ (by omega) k0 (by rw [out (by omega)]; exact k1) ?_ ?_ ?_ ?_ ?_ ?_ ?_ ?_ ?_ ?_ ?_
        all_goals simp only [↓vp, vq0, vq1, vq2, vq3, vr0, vr1, vr2, vr3, vr4, vr5, vr6, vr7, vr8, vr9, vr10, vr11, vr12, vr13, vr14, vr15, vr16, vr17, vr18, vr19, vr20, vr21, vr22, vr23, vr24, vr25, vr26, vr27, vr28, vr29, vr30, vr31, vr32, vr33, vr34, opS, fpS, extO, okP, pack, nAl, allocA, shId, leaves, fillA, fillR, splice, Nat.reduceLT, Nat.reduceEqDiff, Nat.reduceLeDiff, Nat.reduceAdd, Nat.reduceSub, Nat.reduceMul, Int.reduceBEq, Int.reduceBNe, Int.reduceLT, Int.reduceLE, Int.reduceEq, reduceIte, reduceCtorEq, da, int, boolA, q0, q1, q2, q7, q8, q9, q10, q13, q58, q59]
    · have z1 : (q ≥ 0) = False := eq_false h0
      have z2 : (0 ≤ q) = False := eq_false h0
      simp only [↓vp, vq0, vq1, vq2, vq3, vr0, vr1, vr2, vr3, vr4, vr5, vr6, vr7, vr8, vr9, vr10, vr11, vr12, vr13, vr14, vr15, vr16, vr17, vr18, vr19, vr20, vr21, vr22, vr23, vr24, vr25, vr26, vr27, vr28, vr29, vr30, vr31, vr32, vr33, vr34, opS, fpS, extO, okP, pack, nAl, allocA, shId, leaves, fillA, fillR, splice, Nat.reduceLT, Nat.reduceEqDiff, Nat.reduceLeDiff, Nat.reduceAdd, Nat.reduceSub, Nat.reduceMul, Int.reduceBEq, Int.reduceBNe, Int.reduceLT, Int.reduceLE, Int.reduceEq, reduceIte, reduceCtorEq, da, int, boolA, dr, q13, q58, q59, q60, g1, aN, cN1, numC, z1, z2, w1]
      refine ih (i + 1) K _ (by omega) k0 (by rw [out (by omega)]; exact k1) ?_ ?_ ?_ ?_ ?_ ?_ ?_ ?_ ?_ ?_ ?_
      all_goals simp only [↓vp, vq0, vq1, vq2, vq3, vr0, vr1, vr2, vr3, vr4, vr5, vr6, vr7, vr8, vr9, vr10, vr11, vr12, vr13, vr14, vr15, vr16, vr17, vr18, vr19, vr20, vr21, vr22, vr23, vr24, vr25, vr26, vr27, vr28, vr29, vr30, vr31, vr32, vr33, vr34, opS, fpS, extO, okP, pack, nAl, allocA, shId, leaves, fillA, fillR, splice, Nat.reduceLT, Nat.reduceEqDiff, Nat.reduceLeDiff, Nat.reduceAdd, Nat.reduceSub, Nat.reduceMul, Int.reduceBEq, Int.reduceBNe, Int.reduceLT, Int.reduceLE, Int.reduceEq, reduceIte, reduceCtorEq, da, int, boolA, q0, q1, q2, q7, q8, q9, q10, q13, q58, q59]
theorem ends_tab {l : List RunM} (h : few4 l = true) : endT (fun p => inR (cleanM l) (p : Int)) 600 = endsM l := by
  rw [ends_600 h]
  have : ∀ n, n ≤ 600 → endT (fun p => inR (cleanM l) (p : Int)) n = endT (fun k => (setM l 600).getD k false) n := by
    intro n
    induction n with
    | zero => intro _; rfl
    | succ n ih =>
      intro hn
      unfold endT
      rw [ih (by omega), setM_at l (show n < 600 by omega)]
  exact this 600 (Nat.le_refl _)
theorem pages_tab {l : List RunM} (h : few4 l = true) : pagesM l = upto (fun p => inR (cleanM l) (p : Int)) 600 := by
  obtain ⟨_, hf⟩ := few_clean h
  exact pages_upto fun p hp => few_lt hf hp
theorem tab0 : List.replicate 32768 [AV.sc (.bool false)] = tabC 32768 (fun _ => false) := by
  unfold tabC
  rw [show tab 32768 (fun _ => false) = List.replicate 32768 false by unfold tab; rw [List.map_const', List.length_range], List.map_replicate]
  rfl
theorem s6 (l : List RunM) (pages : List Int) (page : Int) (H : Heap) : callL ftX (.fn (.func 6) [] []) [encR l, encN pages, int page] H = some (boolA true, H) := by
  refine call_p (as' := [encR l, encN pages, int page]) rfl rfl (by simp) ?_
  unfold c6 r6
  have k35 := fun K L Q => @kX_of _ _ Q _ _ _ (s35 l (hx K L))
  have kA := fun K L Q => @kX_om _ _ Q _ _ _ (s36 (hx K L))
  simp only [int, boolA] at k35 kA
  cases fl : few4 l with
  | false =>
    rw [fl] at k35
    simp only [↓vp, vq0, vq1, vq2, vq3, vr0, vr1, vr2, vr3, vr4, vr5, vr6, vr7, vr8, vr9, vr10, vr11, vr12, vr13, vr14, vr15, vr16, vr17, vr18, vr19, vr20, vr21, vr22, vr23, vr24, vr25, vr26, vr27, vr28, vr29, vr30, vr31, vr32, vr33, vr34, opS, fpS, extO, okP, pack, nAl, allocA, shId, leaves, fillA, fillR, splice, Nat.reduceLT, Nat.reduceEqDiff, Nat.reduceLeDiff, Nat.reduceAdd, Nat.reduceSub, Nat.reduceMul, Int.reduceBEq, Int.reduceBNe, Int.reduceLT, Int.reduceLE, Int.reduceEq, reduceIte, reduceCtorEq, da, int, boolA, RetP_go, resT, resC, resN, retV1, retV2, retV3, retV0, frzFZ, takeM, Option.some.injEq, dr, k35, kA]
  | true =>
    rw [fl] at k35
    by_cases c1 : (pages.length : Int) > 200
    · have d1 : ((pages.length : Int) > 200) = True := eq_true c1
      have d2 : (200 < (pages.length : Int)) = True := eq_true c1
      simp only [↓vp, vq0, vq1, vq2, vq3, vr0, vr1, vr2, vr3, vr4, vr5, vr6, vr7, vr8, vr9, vr10, vr11, vr12, vr13, vr14, vr15, vr16, vr17, vr18, vr19, vr20, vr21, vr22, vr23, vr24, vr25, vr26, vr27, vr28, vr29, vr30, vr31, vr32, vr33, vr34, opS, fpS, extO, okP, pack, nAl, allocA, shId, leaves, fillA, fillR, splice, Nat.reduceLT, Nat.reduceEqDiff, Nat.reduceLeDiff, Nat.reduceAdd, Nat.reduceSub, Nat.reduceMul, Int.reduceBEq, Int.reduceBNe, Int.reduceLT, Int.reduceLE, Int.reduceEq, reduceIte, reduceCtorEq, da, int, boolA, RetP_go, resT, resC, resN, retV1, retV2, retV3, retV0, frzFZ, takeM, Option.some.injEq, dr, k35, d1, d2, kA]
    have d1 : ((pages.length : Int) > 200) = False := eq_false c1
    have d2 : (200 < (pages.length : Int)) = False := eq_false c1
    have hlen : pages.length ≤ 200 := by omega
    have ll := few_len fl
    have hf := (few_clean fl).2
    have ks := fun K L Q => @kset l (by omega) K L Q
    have k39 := fun K L Q => @kX_of _ _ Q _ _ _ (s39 l (by omega) (hx K L))
    have k38 := fun K L Q => @kX_of _ _ Q _ _ _ (s38 l (by omega) (hx K L))
    rw [pages_tab fl] at k38
    simp only [↓vp, vq0, vq1, vq2, vq3, vr0, vr1, vr2, vr3, vr4, vr5, vr6, vr7, vr8, vr9, vr10, vr11, vr12, vr13, vr14, vr15, vr16, vr17, vr18, vr19, vr20, vr21, vr22, vr23, vr24, vr25, vr26, vr27, vr28, vr29, vr30, vr31, vr32, vr33, vr34, opS, fpS, extO, okP, pack, nAl, allocA, shId, leaves, fillA, fillR, splice, Nat.reduceLT, Nat.reduceEqDiff, Nat.reduceLeDiff, Nat.reduceAdd, Nat.reduceSub, Nat.reduceMul, Int.reduceBEq, Int.reduceBNe, Int.reduceLT, Int.reduceLE, Int.reduceEq, reduceIte, reduceCtorEq, da, int, boolA, dr, k35, d1, d2, ks, k39, k38]
    rw [← hx_nil (hx _ _)]
    refine l6 (encR l) (encN pages) (int page) (fun p => inR (cleanM l) (p : Int)) (fun f' K k0 q0 q1 q2 q7 q8 q9 q10 => ?_) 600 0 _ _ rfl ?_ ?_ ?_ ?_ ?_ ?_ ?_ ?_ ?_ ?_ ?_
    · unfold c6R3
      have hn0 : K.next ≠ 0 := by
        have := Heap.get_lt k0
        omega
      simp only [↓vp, vq0, vq1, vq2, vq3, vr0, vr1, vr2, vr3, vr4, vr5, vr6, vr7, vr8, vr9, vr10, vr11, vr12, vr13, vr14, vr15, vr16, vr17, vr18, vr19, vr20, vr21, vr22, vr23, vr24, vr25, vr26, vr27, vr28, vr29, vr30, vr31, vr32, vr33, vr34, opS, fpS, extO, okP, pack, nAl, allocA, shId, leaves, fillA, fillR, splice, Nat.reduceLT, Nat.reduceEqDiff, Nat.reduceLeDiff, Nat.reduceAdd, Nat.reduceSub, Nat.reduceMul, Int.reduceBEq, Int.reduceBNe, Int.reduceLT, Int.reduceLE, Int.reduceEq, reduceIte, reduceCtorEq, da, int, boolA, dr, q0, q1, q2, q7, q8, q9, q10, tab0]
      rw [← hx_nil (hx _ _)]
      refine l6b (encR l) (encN pages) (int page) (int (upto (fun p => inR (cleanM l) (p : Int)) 600).length) (int (endT (fun p => inR (cleanM l) (p : Int)) 600)) (encN (upto (fun p => inR (cleanM l) (p : Int)) 600)) pages hlen (fun p => inR (cleanM l) (p : Int)) K.next hn0 32768 (by omega) (fun f' K k0 k1 p0 p1 p2 p7 p8 p9 p10 p13 => ?_) pages.length 0 _ _ (by simp) ?_ ?_ ?_ ?_ ?_ ?_ ?_ ?_ ?_ ?_ ?_ ?_ ?_
      · unfold c6R2
        have kr := fun K L Q => @kX_of _ _ Q _ _ _ (s40 l (by omega) (hx K L))
        have kq := fun K L Q => @kX_of _ _ Q _ _ _ (s41 l (by omega) (hx K L))
        have kc := fun K L Q => @kX_of _ _ Q _ _ _ (s42 l (by omega) (hx K L))
        have ke := fun K L Q => @kX_of _ _ Q _ _ _ (s43 l (by omega) (hx K L))
        have kh := fun K L Q => @kX_om _ _ Q _ _ _ (s44 l (by omega) page (hx K L))
        have ho := ofM_ok pages
        have hol := ofM_len pages
        have ko := fun K L Q => @kX_of _ _ Q _ _ _ (s47 pages (by omega) (hx K L))
        have k6 := fun K L Q => @kX_of _ _ Q _ _ _ (s46 (ofM pages) (by omega) (hx K L))
        have k5 := fun K L Q => @kX_of _ _ Q _ _ _ (s45 (ofM pages) (ofM pages) (by omega) (hx K L))
        have hruns : runsM (tab 32768 (hasT pages pages.length)) = ofM pages := by
          refine runs_tab (by omega) ho.1 (fun p hp => ?_) fun p hp => ?_
          · rw [ho.2, Bool.and_eq_true, Bool.and_eq_true, decide_eq_true_eq, decide_eq_true_eq] at hp
            omega
          · rw [ho.2, decide_eq_true (show (0 : Int) ≤ p by omega), decide_eq_true (show (p : Int) < 32768 by omega)]
            unfold hasT
            rw [List.take_length]
            rfl
        have k8 := fun L Q => @k48 K _ 32768 false _ k1 (by omega) _ hruns L Q
        have e1 : countM l = (upto (fun p => inR (cleanM l) (p : Int)) 600).length := by rw [countM_eq, pages_tab fl]
        have e2 := ends_tab fl
        have e5 : sameM (ofM pages) (ofM pages) = true := by simp [sameM]
        rw [e5] at k5
        rw [e1] at kc
        rw [← e2] at ke
        have G0 := fun L => get_old k0 L
        have hh : ∀ v, hasM l page = v → (if page ≥ 0 then (if page < 600 then inR (cleanM l) page else false) else false) = v := fun v hv => by
          rw [← hv, hasM_eq]
          split
          · split
            · rfl
            · cases e : inR (cleanM l) page with
              | false => rfl
              | true => exact absurd (few_lt hf e) (by assumption)
          · cases e : inR (cleanM l) page with
            | false => rfl
            | true => exact absurd (in_pos (clean_may l) e).1 (by assumption)
        simp only [int, boolA] at kr kq kc ke kh k5 k8 p2 p8 p9
        cases er : rightM l <;> rw [er] at kr kq <;> cases ev : hasM l page <;> rw [ev] at kh <;> have hv := hh _ ev
        all_goals
          by_cases h0 : page ≥ 0
          · rw [if_pos h0] at hv
            have z1 : (page ≥ 0) = True := eq_true h0
            have z2 : (0 ≤ page) = True := eq_true h0
            by_cases h1 : page < 600
            · rw [if_pos h1] at hv
              have z3 : (page < 600) = True := eq_true h1
              have z4 : (page < ((600 : Nat) : Int)) = True := eq_true h1
              obtain ⟨m, hm⟩ : ∃ m : Nat, page = (m : Int) := ⟨page.toNat, by omega⟩
              have gm : m < 600 := by omega
              have i1 := fun L => ia_row (i := m) (len := 600) (G0 L) gm
              have r1 := tabC_at (f := fun p => inR (cleanM l) (p : Int)) gm
              have c1 := fun L off n => cells_row (off := off) (n := n) (G0 L) r1
              rw [hm] at hv
              simp only [hv] at c1
              rw [← hm] at i1
              simp only [↓vp, vq0, vq1, vq2, vq3, vr0, vr1, vr2, vr3, vr4, vr5, vr6, vr7, vr8, vr9, vr10, vr11, vr12, vr13, vr14, vr15, vr16, vr17, vr18, vr19, vr20, vr21, vr22, vr23, vr24, vr25, vr26, vr27, vr28, vr29, vr30, vr31, vr32, vr33, vr34, opS, fpS, extO, okP, pack, nAl, allocA, shId, leaves, fillA, fillR, splice, Nat.reduceLT, Nat.reduceEqDiff, Nat.reduceLeDiff, Nat.reduceAdd, Nat.reduceSub, Nat.reduceMul, Int.reduceBEq, Int.reduceBNe, Int.reduceLT, Int.reduceLE, Int.reduceEq, reduceIte, reduceCtorEq, da, int, boolA, RetP_go, resT, resC, resN, retV1, retV2, retV3, retV0, frzFZ, takeM, Option.some.injEq, dr, p0, p1, p2, p7, p8, p9, p10, p13, z1, z2, z3, z4, i1, c1, kA, k39, kr, kq, kc, ke, kh, ko, k6, k8, k5, beq_self_eq_true]
            · rw [if_neg h1] at hv
              have z3 : (page < 600) = False := eq_false h1
              have z4 : (page < ((600 : Nat) : Int)) = False := eq_false h1
              first
                | (cases hv; done)
                | simp only [↓vp, vq0, vq1, vq2, vq3, vr0, vr1, vr2, vr3, vr4, vr5, vr6, vr7, vr8, vr9, vr10, vr11, vr12, vr13, vr14, vr15, vr16, vr17, vr18, vr19, vr20, vr21, vr22, vr23, vr24, vr25, vr26, vr27, vr28, vr29, vr30, vr31, vr32, vr33, vr34, opS, fpS, extO, okP, pack, nAl, allocA, shId, leaves, fillA, fillR, splice, Nat.reduceLT, Nat.reduceEqDiff, Nat.reduceLeDiff, Nat.reduceAdd, Nat.reduceSub, Nat.reduceMul, Int.reduceBEq, Int.reduceBNe, Int.reduceLT, Int.reduceLE, Int.reduceEq, reduceIte, reduceCtorEq, da, int, boolA, RetP_go, resT, resC, resN, retV1, retV2, retV3, retV0, frzFZ, takeM, Option.some.injEq, dr, p0, p1, p2, p7, p8, p9, p10, p13, z1, z2, z3, z4, kA, k39, kr, kq, kc, ke, kh, ko, k6, k8, k5, beq_self_eq_true]
          · rw [if_neg h0] at hv
            have z1 : (page ≥ 0) = False := eq_false h0
            have z2 : (0 ≤ page) = False := eq_false h0
            first
              | (cases hv; done)
              | simp only [↓vp, vq0, vq1, vq2, vq3, vr0, vr1, vr2, vr3, vr4, vr5, vr6, vr7, vr8, vr9, vr10, vr11, vr12, vr13, vr14, vr15, vr16, vr17, vr18, vr19, vr20, vr21, vr22, vr23, vr24, vr25, vr26, vr27, vr28, vr29, vr30, vr31, vr32, vr33, vr34, opS, fpS, extO, okP, pack, nAl, allocA, shId, leaves, fillA, fillR, splice, Nat.reduceLT, Nat.reduceEqDiff, Nat.reduceLeDiff, Nat.reduceAdd, Nat.reduceSub, Nat.reduceMul, Int.reduceBEq, Int.reduceBNe, Int.reduceLT, Int.reduceLE, Int.reduceEq, reduceIte, reduceCtorEq, da, int, boolA, RetP_go, resT, resC, resN, retV1, retV2, retV3, retV0, frzFZ, takeM, Option.some.injEq, dr, p0, p1, p2, p7, p8, p9, p10, p13, z1, z2, kA, k39, kr, kq, kc, ke, kh, ko, k6, k8, k5, beq_self_eq_true]
      · exact get_old k0 _
      · rw [hx_get0, show Int.toNat 32768 = 32768 from rfl, tab0]
        congr 2
      all_goals first | rfl | (simp only [↓vp, vq0, vq1, vq2, vq3, vr0, vr1, vr2, vr3, vr4, vr5, vr6, vr7, vr8, vr9, vr10, vr11, vr12, vr13, vr14, vr15, vr16, vr17, vr18, vr19, vr20, vr21, vr22, vr23, vr24, vr25, vr26, vr27, vr28, vr29, vr30, vr31, vr32, vr33, vr34, opS, fpS, extO, okP, pack, nAl, allocA, shId, leaves, fillA, fillR, splice, Nat.reduceLT, Nat.reduceEqDiff, Nat.reduceLeDiff, Nat.reduceAdd, Nat.reduceSub, Nat.reduceMul, Int.reduceBEq, Int.reduceBNe, Int.reduceLT, Int.reduceLE, Int.reduceEq, reduceIte, reduceCtorEq, da, int, boolA, q0, q1, q2, q7, q8, q9, q10]; done)
    all_goals first | rfl | (simp only [↓vp, vq0, vq1, vq2, vq3, vr0, vr1, vr2, vr3, vr4, vr5, vr6, vr7, vr8, vr9, vr10, vr11, vr12, vr13, vr14, vr15, vr16, vr17, vr18, vr19, vr20, vr21, vr22, vr23, vr24, vr25, vr26, vr27, vr28, vr29, vr30, vr31, vr32, vr33, vr34, opS, fpS, extO, okP, pack, nAl, allocA, shId, leaves, fillA, fillR, splice, Nat.reduceLT, Nat.reduceEqDiff, Nat.reduceLeDiff, Nat.reduceAdd, Nat.reduceSub, Nat.reduceMul, Int.reduceBEq, Int.reduceBNe, Int.reduceLT, Int.reduceLE, Int.reduceEq, reduceIte, reduceCtorEq, da, int, boolA]; done)
end Go.VI

set_option linter.unusedVariables false
set_option linter.unusedSimpArgs false
set_option maxRecDepth 100000
namespace Go.VI
attribute [local congr] AW_congr OW_congr DW_congr NW_congr VW_congr GW_congr PW_congr KW_congr ite_congr' GV_congr CV_congr KF_congr
def someT (f : Nat → Bool) (a k : Nat) : Bool := (List.range k).any fun j => f (a + j)
def allT (f : Nat → Bool) (a k : Nat) : Bool := (List.range k).all fun j => f (a + j)
theorem someT_succ (f : Nat → Bool) (a k : Nat) : someT f a (k + 1) = (someT f a k || f (a + k)) := by
  unfold someT
  rw [List.range_succ, List.any_append]
  simp
theorem allT_succ (f : Nat → Bool) (a k : Nat) : allT f a (k + 1) = (allT f a k && f (a + k)) := by
  unfold allT
  rw [List.range_succ, List.all_append]
  simp
def withT (f : Nat → Bool) (a k p : Nat) : Bool := f p || (decide (a ≤ p) && decide (p < a + k))
def woT (f : Nat → Bool) (a k p : Nat) : Bool := f p && !(decide (a ≤ p) && decide (p < a + k))
theorem withT_set (f : Nat → Bool) (n a k : Nat) : (tabC n (withT f a k)).set (a + k) [.sc (.bool true)] = tabC n (withT f a (k + 1)) := by
  refine tabC_set ?_ fun p _ hp => ?_
  · unfold withT
    rw [decide_eq_true (show a ≤ a + k by omega), decide_eq_true (show a + k < a + (k + 1) by omega)]
    simp
  · unfold withT
    congr 2
    rw [decide_eq_decide]
    omega
theorem woT_set (f : Nat → Bool) (n a k : Nat) : (tabC n (woT f a k)).set (a + k) [.sc (.bool false)] = tabC n (woT f a (k + 1)) := by
  refine tabC_set ?_ fun p _ hp => ?_
  · unfold woT
    rw [decide_eq_true (show a ≤ a + k by omega), decide_eq_true (show a + k < a + (k + 1) by omega)]
    simp
  · unfold woT
    congr 3
    rw [decide_eq_decide]
    omega
theorem l7 (A : AV) (f : Nat → Bool) (a n : Nat) (hm : mayM ((a : Int), (n : Int)) = true) (hn : a + n ≤ 600) {Q : AExit → Env → Heap → Prop}
   (hex : ∀ f' K, K.get 0 = some (.box false (runC ((a : Int), (n : Int)))) → K.get 1 = some (.row false 1 (tabC 600 f)) → K.get 3 = some (.row false 1 (tabC 600 (withT f a n))) → K.get 5 = some (.row false 1 (tabC 600 (woT f a n))) →
      f' 0 = A → f' 3 = .ptr 0 0 0 → f' 5 = .sl 1 0 600 → f' 6 = boolA (someT f a n) → f' 7 = boolA (allT f a n) → f' 8 = .sl 3 0 600 → f' 9 = .sl 5 0 600 → Q (.exit 0) (mkE 141 f') (hx K [])) :
   ∀ (d k : Nat) (K : Heap) (e : Nat → AV), k + d = n → K.get 0 = some (.box false (runC ((a : Int), (n : Int)))) → K.get 1 = some (.row false 1 (tabC 600 f)) → K.get 3 = some (.row false 1 (tabC 600 (withT f a k))) → K.get 5 = some (.row false 1 (tabC 600 (woT f a k))) →
      e 0 = A → e 3 = .ptr 0 0 0 → e 5 = .sl 1 0 600 → e 6 = boolA (someT f a k) → e 7 = boolA (allT f a k) → e 8 = .sl 3 0 600 → e 9 = .sl 5 0 600 → e 10 = int k →
    AW ftX (.loop c7L0) (mkE 141 e) (hx K []) Q := by
  intro d
  induction d with
  | zero =>
    intro k K e hd k0 k1 k3 k5 q0 q3 q5 q6 q7 q8 q9 q10
    obtain rfl : k = n := by omega
    have g1 : ((k : Int) < k) = False := eq_false (by omega)
    have G0 := fun L => get_old k0 L
    have km := fun K L Q => @kX_of _ _ Q _ _ _ (s49 ((a : Int), (k : Int)) (hx K L))
    rw [hm] at km
    simp only [runC, int, boolA] at km G0
    rw [AW_loop]
    unfold c7L0
    simp only [↓vp, vq0, vq1, vq2, vq3, vr0, vr1, vr2, vr3, vr4, vr5, vr6, vr7, vr8, vr9, vr10, vr11, vr12, vr13, vr14, vr15, vr16, vr17, vr18, vr19, vr20, vr21, vr22, vr23, vr24, vr25, vr26, vr27, vr28, vr29, vr30, vr31, vr32, vr33, vr34, opS, fpS, extO, okP, pack, nAl, allocA, shId, leaves, fillA, fillR, splice, Nat.reduceLT, Nat.reduceEqDiff, Nat.reduceLeDiff, Nat.reduceAdd, Nat.reduceSub, Nat.reduceMul, Int.reduceBEq, Int.reduceBNe, Int.reduceLT, Int.reduceLE, Int.reduceEq, reduceIte, reduceCtorEq, da, int, boolA, dr, q3, q10, G0, km, g1]
    refine hex _ _ k0 k1 k3 k5 ?_ ?_ ?_ ?_ ?_ ?_ ?_ <;> simp only [↓vp, vq0, vq1, vq2, vq3, vr0, vr1, vr2, vr3, vr4, vr5, vr6, vr7, vr8, vr9, vr10, vr11, vr12, vr13, vr14, vr15, vr16, vr17, vr18, vr19, vr20, vr21, vr22, vr23, vr24, vr25, vr26, vr27, vr28, vr29, vr30, vr31, vr32, vr33, vr34, opS, fpS, extO, okP, pack, nAl, allocA, shId, leaves, fillA, fillR, splice, Nat.reduceLT, Nat.reduceEqDiff, Nat.reduceLeDiff, Nat.reduceAdd, Nat.reduceSub, Nat.reduceMul, Int.reduceBEq, Int.reduceBNe, Int.reduceLT, Int.reduceLE, Int.reduceEq, reduceIte, reduceCtorEq, da, int, boolA, q0, q3, q5, q6, q7, q8, q9]
  | succ d ih =>
    intro k K e hd k0 k1 k3 k5 q0 q3 q5 q6 q7 q8 q9 q10
    have g1 : ((k : Int) < n) = True := eq_true (by omega)
    have gi : a + k < 600 := by omega
    have w1 := wrap_succ (show k < 9223372036854775807 by omega)
    have w2 : IntKind.i64.wrap ((a : Int) + k) = ((a + k : Nat) : Int) := by rw [wrap_i64 (by omega)]; omega
    have G0 := fun L => get_old k0 L
    have G1 := fun L => get_old k1 L
    have G3 := fun L => get_old k3 L
    have G5 := fun L => get_old k5 L
    have l3 := Heap.get_lt k3
    have l5 := Heap.get_lt k5
    have km := fun K L Q => @kX_of _ _ Q _ _ _ (s49 ((a : Int), (n : Int)) (hx K L))
    rw [hm] at km
    simp only [runC, int, boolA] at km G0
    have i1 := fun L => ia_row (i := a + k) (len := 600) (G1 L) gi
    have i3 := fun L => ia_row (i := a + k) (len := 600) (G3 L) gi
    have i5 := fun L => ia_row (i := a + k) (len := 600) (G5 L) gi
    have r1 := tabC_at (f := f) gi
    have r3 := tabC_at (f := withT f a k) gi
    have r5 := tabC_at (f := woT f a k) gi
    have c1 := fun L off n => cells_row (off := off) (n := n) (G1 L) r1
    let b3 : Blk := .row false 1 (tabC 600 (withT f a (k + 1)))
    let b5 : Blk := .row false 1 (tabC 600 (woT f a (k + 1)))
    have g35 : ∀ L, (hx (K.set 3 (.row false 1 (tabC 600 (withT f a (k + 1))))) L).get 5 = some (.row false 1 (tabC 600 (woT f a k))) := fun L => get_old (by rw [Heap.get_set_ne _ (by omega), k5]) L
    have i35 := fun L => ia_row (i := a + k) (len := 600) (g35 L) gi
    have gs3 : ∀ L b, (hx K L).set 3 b = hx (K.set 3 b) L := fun L b => hx_set_old K L b 3 l3
    have gs5 : ∀ L b b', (hx (K.set 3 b) L).set 5 b' = hx ((K.set 3 b).set 5 b') L := fun L b b' => hx_set_old _ L b' 5 (by rw [Heap.next_set]; exact l5)
    have hs3 := withT_set f 600 a k
    have hs5 := woT_set f 600 a k
    have hsm := someT_succ f a k
    have hal := allT_succ f a k
    have n30 : (3 : Nat) ≠ 0 := by omega
    have fin : ∀ (e' : Nat → AV), e' 0 = A → e' 3 = .ptr 0 0 0 → e' 5 = .sl 1 0 600 → e' 6 = boolA (someT f a (k + 1)) → e' 7 = boolA (allT f a (k + 1)) → e' 8 = .sl 3 0 600 → e' 9 = .sl 5 0 600 → e' 10 = int ((k + 1 : Nat) : Int) →
        AW ftX (.loop c7L0) (mkE 141 e') (hx ((K.set 3 b3).set 5 b5) []) Q := fun e' p0 p3 p5 p6 p7 p8 p9 p10 => by
      refine ih (k + 1) _ e' (by omega) ?_ ?_ ?_ ?_ p0 p3 p5 p6 p7 p8 p9 p10
      · rw [Heap.get_set_ne _ (by omega), Heap.get_set_ne _ (by omega), k0]
      · rw [Heap.get_set_ne _ (by omega), Heap.get_set_ne _ (by omega), k1]
      · rw [Heap.get_set_ne _ (by omega), Heap.get_set_self _ l3]
      · rw [Heap.get_set_self _ (by rw [Heap.next_set]; exact l5)]
    rw [AW_loop]
    unfold c7L0
    cases ef : f (a + k) <;> cases es : someT f a k <;> cases ea : allT f a k <;> rw [ef, es] at hsm <;> rw [ef, ea] at hal <;> rw [ef] at r1 c1 <;> rw [es] at q6 <;> rw [ea] at q7
    all_goals
      simp only [Bool.or_false, Bool.or_true, Bool.false_or, Bool.true_or, Bool.and_true, Bool.and_false, Bool.and_self, Bool.or_self] at hsm hal
      simp only [↓vp, vq0, vq1, vq2, vq3, vr0, vr1, vr2, vr3, vr4, vr5, vr6, vr7, vr8, vr9, vr10, vr11, vr12, vr13, vr14, vr15, vr16, vr17, vr18, vr19, vr20, vr21, vr22, vr23, vr24, vr25, vr26, vr27, vr28, vr29, vr30, vr31, vr32, vr33, vr34, opS, fpS, extO, okP, pack, nAl, allocA, shId, leaves, fillA, fillR, splice, Nat.reduceLT, Nat.reduceEqDiff, Nat.reduceLeDiff, Nat.reduceAdd, Nat.reduceSub, Nat.reduceMul, Int.reduceBEq, Int.reduceBNe, Int.reduceLT, Int.reduceLE, Int.reduceEq, reduceIte, reduceCtorEq, da, int, boolA, dr, q0, q3, q5, q6, q7, q8, q9, q10, G0, km, g1, w2, i1, c1, i3, i5, G3, r3, gs3, hs3, i35, g35, r5, gs5, hs5, w1]
      refine fin _ ?_ ?_ ?_ ?_ ?_ ?_ ?_ ?_ <;> simp only [↓vp, vq0, vq1, vq2, vq3, vr0, vr1, vr2, vr3, vr4, vr5, vr6, vr7, vr8, vr9, vr10, vr11, vr12, vr13, vr14, vr15, vr16, vr17, vr18, vr19, vr20, vr21, vr22, vr23, vr24, vr25, vr26, vr27, vr28, vr29, vr30, vr31, vr32, vr33, vr34, opS, fpS, extO, okP, pack, nAl, allocA, shId, leaves, fillA, fillR, splice, Nat.reduceLT, Nat.reduceEqDiff, Nat.reduceLeDiff, Nat.reduceAdd, Nat.reduceSub, Nat.reduceMul, Int.reduceBEq, Int.reduceBNe, Int.reduceLT, Int.reduceLE, Int.reduceEq, reduceIte, reduceCtorEq, da, int, boolA, q0, q3, q5, q8, q9, hsm, hal]
theorem addM_no {l : List RunM} {x : RunM} (h : addB l x = false) : addM l x = cleanM l := by unfold addM; rw [h]; rfl
theorem dropM_no {l : List RunM} {x : RunM} (h : dropB l x = false) : dropM l x = cleanM l := by unfold dropM; rw [h]; rfl
theorem runs_clean {l : List RunM} (fl : few4 l = true) : runsM (tab 600 fun p => inR (cleanM l) (p : Int)) = cleanM l :=
  runs_tab (by omega) (clean_right l) (fun p hp => few_lt (few_clean fl).2 hp) fun p _ => rfl
theorem same_self (l : List RunM) : sameM l l = true := by simp [sameM]
/-- What stands behind the loop. -/
theorem t7 (l : List RunM) (fl : few4 l = true) (x : RunM) (sm al : Bool) (F G : Nat → Bool) (hA : addB l x = (mayM x && !sm)) (hD : dropB l x = (mayM x && al)) (hF : addB l x = true → runsM (tab 600 F) = addM l x) (hG : dropB l x = true → runsM (tab 600 G) = dropM l x)
   (K : Heap) (k0 : K.get 0 = some (.box false (runC x))) (k1 : K.get 1 = some (.row false 1 (tabC 600 fun p => inR (cleanM l) (p : Int)))) (k3 : K.get 3 = some (.row false 1 (tabC 600 F))) (k5 : K.get 5 = some (.row false 1 (tabC 600 G))) (e : Nat → AV)
   (q0 : e 0 = encR l) (q3 : e 3 = .ptr 0 0 0) (q5 : e 5 = .sl 1 0 600) (q6 : e 6 = boolA sm) (q7 : e 7 = boolA al) (q8 : e 8 = .sl 3 0 600) (q9 : e 9 = .sl 5 0 600) :
   AW ftX c7R1 (mkE 141 e) (hx K []) (RetP r7 (boolA true)) := by
  unfold c7R1 r7
  have ll := few_len fl
  have la := addM_len l x
  have ld := dropM_len l x
  have kA := fun K L Q => @kX_om _ _ Q _ _ _ (s36 (hx K L))
  have km := fun K L Q => @kX_of _ _ Q _ _ _ (s49 x (hx K L))
  have k39 := fun K L Q => @kX_of _ _ Q _ _ _ (s39 l (by omega) (hx K L))
  have k50 := fun K L Q => @kX_om _ _ Q _ _ _ (s50 l (by omega) x (hx K L))
  have k51 := fun K L Q => @kX_om _ _ Q _ _ _ (s51 l (by omega) x (hx K L))
  have k6l := fun K L Q => @kX_of _ _ Q _ _ _ (s46 l (by omega) (hx K L))
  have k6a := fun K L Q => @kX_of _ _ Q _ _ _ (s46 (addM l x) (by omega) (hx K L))
  have k6d := fun K L Q => @kX_of _ _ Q _ _ _ (s46 (dropM l x) (by omega) (hx K L))
  have k5l := fun K L Q => @kX_of _ _ Q _ _ _ (s45 l l (by omega) (hx K L))
  have k5a := fun K L Q => @kX_of _ _ Q _ _ _ (s45 (addM l x) (addM l x) (by omega) (hx K L))
  have k5d := fun K L Q => @kX_of _ _ Q _ _ _ (s45 (dropM l x) (dropM l x) (by omega) (hx K L))
  rw [same_self] at k5l k5a k5d
  have hrc := runs_clean fl
  have l1 := Heap.get_lt k1
  have G0 := fun L => get_old k0 L
  simp only [runC, int, boolA] at km k50 k51 k5l k5a k5d G0 q6 q7 kA
  cases hia : addB l x <;> cases hda : dropB l x
  · skip
    have ra : runsM (tab 600 (fun p => inR (cleanM l) (p : Int))) = addM l x := by rw [addM_no hia]; exact hrc
    have rd : runsM (tab 600 (fun p => inR (cleanM l) (p : Int))) = dropM l x := by rw [dropM_no hda]; exact hrc
    have ka := fun L Q => @k48 K 1 600 false _ k1 (by omega) _ ra L Q
    simp only [Bool.false_eq_true, if_false] at ka
    have kb0 : (K.set 1 (.row true 1 (tabC 600 (fun p => inR (cleanM l) (p : Int))))).get 1 = some (.row true 1 (tabC 600 (fun p => inR (cleanM l) (p : Int)))) := by rw [Heap.get_set_self _ l1]
    have kb := fun L Q => @k48 _ 1 600 true _ kb0 (by omega) _ rd L Q
    simp only [Bool.false_eq_true, if_false, if_true] at kb
    rw [hia] at hA k50
    rw [hda] at hD k51
    cases emx : mayM x <;> rw [emx] at hA hD km <;> cases sm <;> cases al
    all_goals first
      | (exfalso; revert hA; decide)
      | (exfalso; revert hD; decide)
      | simp only [↓vp, vq0, vq1, vq2, vq3, vr0, vr1, vr2, vr3, vr4, vr5, vr6, vr7, vr8, vr9, vr10, vr11, vr12, vr13, vr14, vr15, vr16, vr17, vr18, vr19, vr20, vr21, vr22, vr23, vr24, vr25, vr26, vr27, vr28, vr29, vr30, vr31, vr32, vr33, vr34, opS, fpS, extO, okP, pack, nAl, allocA, shId, leaves, fillA, fillR, splice, Nat.reduceLT, Nat.reduceEqDiff, Nat.reduceLeDiff, Nat.reduceAdd, Nat.reduceSub, Nat.reduceMul, Int.reduceBEq, Int.reduceBNe, Int.reduceLT, Int.reduceLE, Int.reduceEq, reduceIte, reduceCtorEq, da, int, boolA, RetP_go, resT, resC, resN, retV1, retV2, retV3, retV0, frzFZ, takeM, Option.some.injEq, dr, q0, q3, q5, q6, q7, q8, q9, G0, kA, km, k39, k50, k51, k6l, k6a, k6d, k5l, k5a, k5d, ka, kb]
  · skip
    have ra : runsM (tab 600 (fun p => inR (cleanM l) (p : Int))) = addM l x := by rw [addM_no hia]; exact hrc
    have rd : runsM (tab 600 G) = dropM l x := hG hda
    have ka := fun L Q => @k48 K 1 600 false _ k1 (by omega) _ ra L Q
    simp only [Bool.false_eq_true, if_false] at ka
    have kb0 : (K.set 1 (.row true 1 (tabC 600 (fun p => inR (cleanM l) (p : Int))))).get 5 = some (.row false 1 (tabC 600 G)) := by rw [Heap.get_set_ne _ (by omega), k5]
    have kb := fun L Q => @k48 _ 5 600 false _ kb0 (by omega) _ rd L Q
    simp only [Bool.false_eq_true, if_false, if_true] at kb
    rw [hia] at hA k50
    rw [hda] at hD k51
    cases emx : mayM x <;> rw [emx] at hA hD km <;> cases sm <;> cases al
    all_goals first
      | (exfalso; revert hA; decide)
      | (exfalso; revert hD; decide)
      | simp only [↓vp, vq0, vq1, vq2, vq3, vr0, vr1, vr2, vr3, vr4, vr5, vr6, vr7, vr8, vr9, vr10, vr11, vr12, vr13, vr14, vr15, vr16, vr17, vr18, vr19, vr20, vr21, vr22, vr23, vr24, vr25, vr26, vr27, vr28, vr29, vr30, vr31, vr32, vr33, vr34, opS, fpS, extO, okP, pack, nAl, allocA, shId, leaves, fillA, fillR, splice, Nat.reduceLT, Nat.reduceEqDiff, Nat.reduceLeDiff, Nat.reduceAdd, Nat.reduceSub, Nat.reduceMul, Int.reduceBEq, Int.reduceBNe, Int.reduceLT, Int.reduceLE, Int.reduceEq, reduceIte, reduceCtorEq, da, int, boolA, RetP_go, resT, resC, resN, retV1, retV2, retV3, retV0, frzFZ, takeM, Option.some.injEq, dr, q0, q3, q5, q6, q7, q8, q9, G0, kA, km, k39, k50, k51, k6l, k6a, k6d, k5l, k5a, k5d, ka, kb]
  · skip
    have ra : runsM (tab 600 F) = addM l x := hF hia
    have rd : runsM (tab 600 (fun p => inR (cleanM l) (p : Int))) = dropM l x := by rw [dropM_no hda]; exact hrc
    have ka := fun L Q => @k48 K 3 600 false _ k3 (by omega) _ ra L Q
    simp only [Bool.false_eq_true, if_false] at ka
    have kb0 : (K.set 3 (.row true 1 (tabC 600 F))).get 1 = some (.row false 1 (tabC 600 (fun p => inR (cleanM l) (p : Int)))) := by rw [Heap.get_set_ne _ (by omega), k1]
    have kb := fun L Q => @k48 _ 1 600 false _ kb0 (by omega) _ rd L Q
    simp only [Bool.false_eq_true, if_false, if_true] at kb
    rw [hia] at hA k50
    rw [hda] at hD k51
    cases emx : mayM x <;> rw [emx] at hA hD km <;> cases sm <;> cases al
    all_goals first
      | (exfalso; revert hA; decide)
      | (exfalso; revert hD; decide)
      | simp only [↓vp, vq0, vq1, vq2, vq3, vr0, vr1, vr2, vr3, vr4, vr5, vr6, vr7, vr8, vr9, vr10, vr11, vr12, vr13, vr14, vr15, vr16, vr17, vr18, vr19, vr20, vr21, vr22, vr23, vr24, vr25, vr26, vr27, vr28, vr29, vr30, vr31, vr32, vr33, vr34, opS, fpS, extO, okP, pack, nAl, allocA, shId, leaves, fillA, fillR, splice, Nat.reduceLT, Nat.reduceEqDiff, Nat.reduceLeDiff, Nat.reduceAdd, Nat.reduceSub, Nat.reduceMul, Int.reduceBEq, Int.reduceBNe, Int.reduceLT, Int.reduceLE, Int.reduceEq, reduceIte, reduceCtorEq, da, int, boolA, RetP_go, resT, resC, resN, retV1, retV2, retV3, retV0, frzFZ, takeM, Option.some.injEq, dr, q0, q3, q5, q6, q7, q8, q9, G0, kA, km, k39, k50, k51, k6l, k6a, k6d, k5l, k5a, k5d, ka, kb]
  · skip
    have ra : runsM (tab 600 F) = addM l x := hF hia
    have rd : runsM (tab 600 G) = dropM l x := hG hda
    have ka := fun L Q => @k48 K 3 600 false _ k3 (by omega) _ ra L Q
    simp only [Bool.false_eq_true, if_false] at ka
    have kb0 : (K.set 3 (.row true 1 (tabC 600 F))).get 5 = some (.row false 1 (tabC 600 G)) := by rw [Heap.get_set_ne _ (by omega), k5]
    have kb := fun L Q => @k48 _ 5 600 false _ kb0 (by omega) _ rd L Q
    simp only [Bool.false_eq_true, if_false, if_true] at kb
    rw [hia] at hA k50
    rw [hda] at hD k51
    cases emx : mayM x <;> rw [emx] at hA hD km <;> cases sm <;> cases al
    all_goals first
      | (exfalso; revert hA; decide)
      | (exfalso; revert hD; decide)
      | simp only [↓vp, vq0, vq1, vq2, vq3, vr0, vr1, vr2, vr3, vr4, vr5, vr6, vr7, vr8, vr9, vr10, vr11, vr12, vr13, vr14, vr15, vr16, vr17, vr18, vr19, vr20, vr21, vr22, vr23, vr24, vr25, vr26, vr27, vr28, vr29, vr30, vr31, vr32, vr33, vr34, opS, fpS, extO, okP, pack, nAl, allocA, shId, leaves, fillA, fillR, splice, Nat.reduceLT, Nat.reduceEqDiff, Nat.reduceLeDiff, Nat.reduceAdd, Nat.reduceSub, Nat.reduceMul, Int.reduceBEq, Int.reduceBNe, Int.reduceLT, Int.reduceLE, Int.reduceEq, reduceIte, reduceCtorEq, da, int, boolA, RetP_go, resT, resC, resN, retV1, retV2, retV3, retV0, frzFZ, takeM, Option.some.injEq, dr, q0, q3, q5, q6, q7, q8, q9, G0, kA, km, k39, k50, k51, k6l, k6a, k6d, k5l, k5a, k5d, ka, kb]
theorem tabC_sz (n : Nat) (f : Nat → Bool) : allSz 1 (tabC n f) = true := by simp [allSz, tabC, bitC]
theorem tabC_take (n : Nat) (f : Nat → Bool) : (tabC n f).take n = tabC n f := List.take_of_length_le (by rw [tabC_len]; exact Nat.le_refl _)
theorem some_iff {f : Nat → Bool} {a n : Nat} : someT f a n = true ↔ ∃ j, j < n ∧ f (a + j) = true := by
  unfold someT
  rw [List.any_eq_true]
  simp only [List.mem_range]
theorem all_iff {f : Nat → Bool} {a n : Nat} : allT f a n = true ↔ ∀ j, j < n → f (a + j) = true := by
  unfold allT
  rw [List.all_eq_true]
  simp only [List.mem_range]
section
variable (l : List RunM) (a n : Nat)
theorem pin_nat {p : Int} : pinR ((a : Int), (n : Int)) p = true ↔ ∃ j : Nat, j < n ∧ p = ((a + j : Nat) : Int) := by
  rw [pinR_t]
  unfold endM
  simp only
  constructor
  · rintro ⟨h1, h2⟩
    exact ⟨(p - a).toNat, by omega, by omega⟩
  · rintro ⟨j, h1, rfl⟩
    omega
theorem add_tab (hm : mayM ((a : Int), (n : Int)) = true) : addB l ((a : Int), (n : Int)) = (mayM ((a : Int), (n : Int)) && !someT (fun p => inR (cleanM l) (p : Int)) a n) := by
  refine beq_iff' ?_
  rw [addB_iff, Bool.and_eq_true, Bool.not_eq_true']
  refine and_congr_right fun _ => ?_
  rw [← Bool.not_eq_true, some_iff]
  constructor
  · rintro h ⟨j, hj, hp⟩
    have := h _ ((pin_nat a n).2 ⟨j, hj, rfl⟩)
    rw [this] at hp
    cases hp
  · intro h p hp
    obtain ⟨j, hj, rfl⟩ := (pin_nat a n).1 hp
    cases e : inR (cleanM l) ((a + j : Nat) : Int) with
    | false => rfl
    | true => exact absurd ⟨j, hj, e⟩ h
theorem drop_tab (hm : mayM ((a : Int), (n : Int)) = true) : dropB l ((a : Int), (n : Int)) = (mayM ((a : Int), (n : Int)) && allT (fun p => inR (cleanM l) (p : Int)) a n) := by
  refine beq_iff' ?_
  rw [dropB_iff, Bool.and_eq_true, all_iff]
  refine and_congr_right fun _ => ?_
  constructor
  · intro h j hj
    exact h _ ((pin_nat a n).2 ⟨j, hj, rfl⟩)
  · intro h p hp
    obtain ⟨j, hj, rfl⟩ := (pin_nat a n).1 hp
    exact h j hj
theorem pin_dec (p : Nat) : pinR ((a : Int), (n : Int)) (p : Int) = (decide (a ≤ p) && decide (p < a + n)) := by
  unfold pinR endM
  congr 1 <;> rw [decide_eq_decide] <;> simp only <;> omega
theorem with_tab (fl : few4 l = true) (hn : a + n ≤ 600) (h : addB l ((a : Int), (n : Int)) = true) : runsM (tab 600 (withT (fun p => inR (cleanM l) (p : Int)) a n)) = addM l ((a : Int), (n : Int)) := by
  have hk := addM_ok l ((a : Int), (n : Int))
  refine runs_tab (by omega) hk.1 (fun p hp => ?_) fun p _ => ?_
  · rw [hk.2, Bool.or_eq_true, Bool.and_eq_true] at hp
    rcases hp with hp | ⟨_, hp⟩
    · exact few_lt (few_clean fl).2 hp
    · obtain ⟨j, hj, rfl⟩ := (pin_nat a n).1 hp
      omega
  · rw [hk.2, h, Bool.true_and, pin_dec]
    rfl
theorem wo_tab (fl : few4 l = true) (h : dropB l ((a : Int), (n : Int)) = true) : runsM (tab 600 (woT (fun p => inR (cleanM l) (p : Int)) a n)) = dropM l ((a : Int), (n : Int)) := by
  have hk := dropM_ok l ((a : Int), (n : Int))
  refine runs_tab (by omega) hk.1 (fun p hp => ?_) fun p _ => ?_
  · rw [hk.2, Bool.and_eq_true] at hp
    exact few_lt (few_clean fl).2 hp.1
  · rw [hk.2, h, Bool.true_and, pin_dec]
    rfl
end
theorem s7 (l : List RunM) (x : RunM) (H : Heap) : callL ftX (.fn (.func 7) [] []) [encR l, .agg (runC x)] H = some (boolA true, H) := by
  refine call_p (as' := [encR l, .agg (runC x)]) rfl rfl (by simp) ?_
  unfold c7 r7
  have k35 := fun K L Q => @kX_of _ _ Q _ _ _ (s35 l (hx K L))
  have kA := fun K L Q => @kX_om _ _ Q _ _ _ (s36 (hx K L))
  have km := fun K L Q => @kX_of _ _ Q _ _ _ (s49 x (hx K L))
  simp only [runC, int, boolA] at k35 kA km
  cases fl : few4 l with
  | false =>
    rw [fl] at k35
    simp only [↓vp, vq0, vq1, vq2, vq3, vr0, vr1, vr2, vr3, vr4, vr5, vr6, vr7, vr8, vr9, vr10, vr11, vr12, vr13, vr14, vr15, vr16, vr17, vr18, vr19, vr20, vr21, vr22, vr23, vr24, vr25, vr26, vr27, vr28, vr29, vr30, vr31, vr32, vr33, vr34, opS, fpS, extO, okP, pack, nAl, allocA, shId, leaves, fillA, fillR, splice, Nat.reduceLT, Nat.reduceEqDiff, Nat.reduceLeDiff, Nat.reduceAdd, Nat.reduceSub, Nat.reduceMul, Int.reduceBEq, Int.reduceBNe, Int.reduceLT, Int.reduceLE, Int.reduceEq, reduceIte, reduceCtorEq, da, int, boolA, RetP_go, resT, resC, resN, retV1, retV2, retV3, retV0, frzFZ, takeM, Option.some.injEq, dr, runC, k35, kA]
  | true =>
    rw [fl] at k35
    have ll := few_len fl
    have ks := fun K L Q => @kset l (by omega) K L Q
    have z6 : ((600 : Nat) = 0) = False := eq_false (by omega)
    have z7 : (600 * 1 ≤ 140737488355328) = True := eq_true (by omega)
    cases hmx : mayM x with
    | false =>
      rw [hmx] at km
      simp only [↓vp, vq0, vq1, vq2, vq3, vr0, vr1, vr2, vr3, vr4, vr5, vr6, vr7, vr8, vr9, vr10, vr11, vr12, vr13, vr14, vr15, vr16, vr17, vr18, vr19, vr20, vr21, vr22, vr23, vr24, vr25, vr26, vr27, vr28, vr29, vr30, vr31, vr32, vr33, vr34, opS, fpS, extO, okP, pack, nAl, allocA, shId, leaves, fillA, fillR, splice, Nat.reduceLT, Nat.reduceEqDiff, Nat.reduceLeDiff, Nat.reduceAdd, Nat.reduceSub, Nat.reduceMul, Int.reduceBEq, Int.reduceBNe, Int.reduceLT, Int.reduceLE, Int.reduceEq, reduceIte, reduceCtorEq, da, int, boolA, dr, runC, k35, km, ks, vemp, tabC_len, tabC_sz, tabC_take, z6, z7, List.drop_zero]
      rw [AW_loop]
      unfold c7L0
      have km2 := fun K L Q => @kX_of _ _ Q _ _ _ (s49 x (hx K L))
      rw [hmx] at km2
      simp only [runC, int, boolA] at km2
      simp only [↓vp, vq0, vq1, vq2, vq3, vr0, vr1, vr2, vr3, vr4, vr5, vr6, vr7, vr8, vr9, vr10, vr11, vr12, vr13, vr14, vr15, vr16, vr17, vr18, vr19, vr20, vr21, vr22, vr23, vr24, vr25, vr26, vr27, vr28, vr29, vr30, vr31, vr32, vr33, vr34, opS, fpS, extO, okP, pack, nAl, allocA, shId, leaves, fillA, fillR, splice, Nat.reduceLT, Nat.reduceEqDiff, Nat.reduceLeDiff, Nat.reduceAdd, Nat.reduceSub, Nat.reduceMul, Int.reduceBEq, Int.reduceBNe, Int.reduceLT, Int.reduceLE, Int.reduceEq, reduceIte, reduceCtorEq, da, int, boolA, dr, km2]
      rw [← hx_nil (hx _ _)]
      have hA : addB l x = (mayM x && !false) := by unfold addB; rw [hmx]; rfl
      have hD : dropB l x = (mayM x && true) := by unfold dropB; rw [hmx]; rfl
      refine t7 l fl x false true (fun p => inR (cleanM l) (p : Int)) (fun p => inR (cleanM l) (p : Int)) hA hD (fun h => ?_) (fun h => ?_) _ ?_ ?_ ?_ ?_ _ ?_ ?_ ?_ ?_ ?_ ?_ ?_
      · rw [hA, hmx] at h; cases h
      · rw [hD, hmx] at h; cases h
      all_goals first | rfl | (simp only [↓vp, vq0, vq1, vq2, vq3, vr0, vr1, vr2, vr3, vr4, vr5, vr6, vr7, vr8, vr9, vr10, vr11, vr12, vr13, vr14, vr15, vr16, vr17, vr18, vr19, vr20, vr21, vr22, vr23, vr24, vr25, vr26, vr27, vr28, vr29, vr30, vr31, vr32, vr33, vr34, opS, fpS, extO, okP, pack, nAl, allocA, shId, leaves, fillA, fillR, splice, Nat.reduceLT, Nat.reduceEqDiff, Nat.reduceLeDiff, Nat.reduceAdd, Nat.reduceSub, Nat.reduceMul, Int.reduceBEq, Int.reduceBNe, Int.reduceLT, Int.reduceLE, Int.reduceEq, reduceIte, reduceCtorEq, da, int, boolA]; done)
    | true =>
      have mx := mayM_iff.1 hmx
      obtain ⟨a, n, rfl⟩ : ∃ a n : Nat, x = ((a : Int), (n : Int)) := ⟨x.1.toNat, x.2.toNat, Prod.ext (by simp only; omega) (by simp only; omega)⟩
      simp only at mx
      rw [hmx] at km
      have w2 : IntKind.i64.wrap ((a : Int) + n) = (a : Int) + n := wrap_i64 (by omega)
      by_cases c6 : (a : Int) + n > 600
      · have d1 : ((a : Int) + n > 600) = True := eq_true c6
        have d2 : (600 < (a : Int) + n) = True := eq_true c6
        simp only [↓vp, vq0, vq1, vq2, vq3, vr0, vr1, vr2, vr3, vr4, vr5, vr6, vr7, vr8, vr9, vr10, vr11, vr12, vr13, vr14, vr15, vr16, vr17, vr18, vr19, vr20, vr21, vr22, vr23, vr24, vr25, vr26, vr27, vr28, vr29, vr30, vr31, vr32, vr33, vr34, opS, fpS, extO, okP, pack, nAl, allocA, shId, leaves, fillA, fillR, splice, Nat.reduceLT, Nat.reduceEqDiff, Nat.reduceLeDiff, Nat.reduceAdd, Nat.reduceSub, Nat.reduceMul, Int.reduceBEq, Int.reduceBNe, Int.reduceLT, Int.reduceLE, Int.reduceEq, reduceIte, reduceCtorEq, da, int, boolA, RetP_go, resT, resC, resN, retV1, retV2, retV3, retV0, frzFZ, takeM, Option.some.injEq, dr, runC, k35, km, w2, d1, d2, kA]
      · have d1 : ((a : Int) + n > 600) = False := eq_false c6
        have d2 : (600 < (a : Int) + n) = False := eq_false c6
        simp only [↓vp, vq0, vq1, vq2, vq3, vr0, vr1, vr2, vr3, vr4, vr5, vr6, vr7, vr8, vr9, vr10, vr11, vr12, vr13, vr14, vr15, vr16, vr17, vr18, vr19, vr20, vr21, vr22, vr23, vr24, vr25, vr26, vr27, vr28, vr29, vr30, vr31, vr32, vr33, vr34, opS, fpS, extO, okP, pack, nAl, allocA, shId, leaves, fillA, fillR, splice, Nat.reduceLT, Nat.reduceEqDiff, Nat.reduceLeDiff, Nat.reduceAdd, Nat.reduceSub, Nat.reduceMul, Int.reduceBEq, Int.reduceBNe, Int.reduceLT, Int.reduceLE, Int.reduceEq, reduceIte, reduceCtorEq, da, int, boolA, dr, runC, k35, km, w2, d1, d2, ks, vemp, tabC_len, tabC_sz, tabC_take, z6, z7, List.drop_zero]
        rw [← hx_nil (hx _ _)]
        have hw0 : tabC 600 (withT (fun p => inR (cleanM l) (p : Int)) a 0) = tabC 600 (fun p => inR (cleanM l) (p : Int)) := tabC_congr fun p _ => by
          unfold withT
          cases e1 : decide (a ≤ p) with
          | false => simp
          | true => rw [decide_eq_false (by simp at e1; omega)]; simp
        have ho0 : tabC 600 (woT (fun p => inR (cleanM l) (p : Int)) a 0) = tabC 600 (fun p => inR (cleanM l) (p : Int)) := tabC_congr fun p _ => by
          unfold woT
          cases e1 : decide (a ≤ p) with
          | false => simp
          | true => rw [decide_eq_false (by simp at e1; omega)]; simp
        refine l7 (encR l) (fun p => inR (cleanM l) (p : Int)) a n hmx (by omega) (fun f' K k0 k1 k3 k5 q0 q3 q5 q6 q7 q8 q9 => ?_) n 0 _ _ (by omega) ?_ ?_ ?_ ?_ ?_ ?_ ?_ ?_ ?_ ?_ ?_ ?_
        · simp only [↓vp, vq0, vq1, vq2, vq3, vr0, vr1, vr2, vr3, vr4, vr5, vr6, vr7, vr8, vr9, vr10, vr11, vr12, vr13, vr14, vr15, vr16, vr17, vr18, vr19, vr20, vr21, vr22, vr23, vr24, vr25, vr26, vr27, vr28, vr29, vr30, vr31, vr32, vr33, vr34, opS, fpS, extO, okP, pack, nAl, allocA, shId, leaves, fillA, fillR, splice, Nat.reduceLT, Nat.reduceEqDiff, Nat.reduceLeDiff, Nat.reduceAdd, Nat.reduceSub, Nat.reduceMul, Int.reduceBEq, Int.reduceBNe, Int.reduceLT, Int.reduceLE, Int.reduceEq, reduceIte, reduceCtorEq]
          exact t7 l fl _ _ _ _ _ (add_tab l a n hmx) (drop_tab l a n hmx) (with_tab l a n fl (by omega)) (wo_tab l a n fl) K k0 k1 k3 k5 f' q0 q3 q5 q6 q7 q8 q9
        all_goals first | rfl | (simp only [↓vp, vq0, vq1, vq2, vq3, vr0, vr1, vr2, vr3, vr4, vr5, vr6, vr7, vr8, vr9, vr10, vr11, vr12, vr13, vr14, vr15, vr16, vr17, vr18, vr19, vr20, vr21, vr22, vr23, vr24, vr25, vr26, vr27, vr28, vr29, vr30, vr31, vr32, vr33, vr34, opS, fpS, extO, okP, pack, nAl, allocA, shId, leaves, fillA, fillR, splice, Nat.reduceLT, Nat.reduceEqDiff, Nat.reduceLeDiff, Nat.reduceAdd, Nat.reduceSub, Nat.reduceMul, Int.reduceBEq, Int.reduceBNe, Int.reduceLT, Int.reduceLE, Int.reduceEq, reduceIte, reduceCtorEq, da, int, boolA]; done) | (simp only [↓vp, vq0, vq1, vq2, vq3, vr0, vr1, vr2, vr3, vr4, vr5, vr6, vr7, vr8, vr9, vr10, vr11, vr12, vr13, vr14, vr15, vr16, vr17, vr18, vr19, vr20, vr21, vr22, vr23, vr24, vr25, vr26, vr27, vr28, vr29, vr30, vr31, vr32, vr33, vr34, opS, fpS, extO, okP, pack, nAl, allocA, shId, leaves, fillA, fillR, splice, Nat.reduceLT, Nat.reduceEqDiff, Nat.reduceLeDiff, Nat.reduceAdd, Nat.reduceSub, Nat.reduceMul, Int.reduceBEq, Int.reduceBNe, Int.reduceLT, Int.reduceLE, Int.reduceEq, reduceIte, reduceCtorEq, da, int, boolA, hw0, ho0]; done)
end Go.VI

set_option linter.unusedVariables false
set_option linter.unusedSimpArgs false
set_option maxRecDepth 100000
namespace Go.VI
attribute [local congr] AW_congr OW_congr DW_congr NW_congr VW_congr GW_congr PW_congr KW_congr ite_congr' GV_congr CV_congr KF_congr
section
variable {l : List RunM} {x : RunM} (h : addB l x = true)
include h
theorem back_b : dropB (addM l x) x = true := by
  have ha := addM_ok l x
  refine dropB_iff.2 ⟨(addB_iff.1 h).1, fun p hp => ?_⟩
  rw [clean_of ha.1, ha.2, h, hp]
  simp
theorem back_d : dropM (addM l x) x = cleanM l := by
  have ha := addM_ok l x
  have hd := dropM_ok (addM l x) x
  refine right_ext hd.1 (clean_right l) fun p => ?_
  rw [hd.2, clean_of ha.1, ha.2, h, back_b h, Bool.true_and]
  cases e : pinR x p with
  | false => simp
  | true => rw [(addB_iff.1 h).2 p e]; rfl
theorem sing_right : rightM [x] = true := by
  have hm := (addB_iff.1 h).1
  have := mayM_iff.1 hm
  exact rgt_cons.2 ⟨hm, by omega, rfl⟩
theorem back_u : unionM l [x] = addM l x := by
  have hu := unionM_ok l [x]
  have ha := addM_ok l x
  refine right_ext hu.1 ha.1 fun p => ?_
  rw [hu.2, ha.2, h, clean_of (sing_right h), inR_cons, inR_nil, Bool.or_false, Bool.true_and]
theorem back_m : meetM (cleanM l) [x] = false := by
  rw [← Bool.not_eq_true, meetM_iff, clean_clean, clean_of (sing_right h)]
  rintro ⟨p, h1, h2⟩
  rw [inR_cons, inR_nil, Bool.or_false] at h2
  rw [(addB_iff.1 h).2 p h2] at h1
  cases h1
theorem back_c : countM (addM l x) = countM (cleanM l) + x.2 := by
  have hc := counts l [x]
  have hm := meet_counts l [x]
  have e1 : meetM l [x] = false := by
    have := back_m h
    rw [← Bool.not_eq_true, meetM_iff] at this ⊢
    rw [clean_clean] at this
    exact this
  rw [e1] at hm
  have e2 : ¬ (0 < (((pagesM l).filter fun p => hasM [x] p).length : Int)) := by simpa using hm.symm
  have e3 : countM [x] = x.2 := by
    unfold countM
    rw [clean_of (sing_right h), sumM_cons]
    simp [sumM]
  have e4 : countM (cleanM l) = countM l := by unfold countM; rw [clean_clean]
  rw [back_u h, e3] at hc
  rw [e4]
  omega
end
theorem s10 (l : List RunM) (x : RunM) (H : Heap) : callL ftX (.fn (.func 10) [] []) [encR l, .agg (runC x)] H = some (boolA true, H) := by
  refine call_p (as' := [encR l, .agg (runC x)]) rfl rfl (by simp) ?_
  unfold c10 r10
  have k35 := fun K L Q => @kX_of _ _ Q _ _ _ (s35 l (hx K L))
  have kA := fun K L Q => @kX_om _ _ Q _ _ _ (s36 (hx K L))
  have km := fun K L Q => @kX_of _ _ Q _ _ _ (s49 x (hx K L))
  simp only [runC, int, boolA] at k35 kA km
  cases fl : few4 l with
  | false =>
    rw [fl] at k35
    simp only [↓vp, vq0, vq1, vq2, vq3, vr0, vr1, vr2, vr3, vr4, vr5, vr6, vr7, vr8, vr9, vr10, vr11, vr12, vr13, vr14, vr15, vr16, vr17, vr18, vr19, vr20, vr21, vr22, vr23, vr24, vr25, vr26, vr27, vr28, vr29, vr30, vr31, vr32, vr33, vr34, opS, fpS, extO, okP, pack, nAl, allocA, shId, leaves, fillA, fillR, splice, Nat.reduceLT, Nat.reduceEqDiff, Nat.reduceLeDiff, Nat.reduceAdd, Nat.reduceSub, Nat.reduceMul, Int.reduceBEq, Int.reduceBNe, Int.reduceLT, Int.reduceLE, Int.reduceEq, reduceIte, reduceCtorEq, da, int, boolA, RetP_go, resT, resC, resN, retV1, retV2, retV3, retV0, frzFZ, takeM, Option.some.injEq, dr, runC, k35, kA]
  | true =>
    rw [fl] at k35
    have ll := few_len fl
    have la := addM_len l x
    have k39 := fun K L Q => @kX_of _ _ Q _ _ _ (s39 l (by omega) (hx K L))
    have k50 := fun K L Q => @kX_om _ _ Q _ _ _ (s50 l (by omega) x (hx K L))
    have p39 : pureV ftX (.fn (.func 39) [] []) [encR l] = some (false, []) := rfl
    have p50 : ∀ a b : Int, pureV ftX (.fn (.func 50) [] []) [encR l, .agg [.sc (.int .i64 a), .sc (.int .i64 b)]] = some (false, []) := fun _ _ => rfl
    simp only [runC, int, boolA] at k50
    cases hmx : mayM x with
    | false =>
      rw [hmx] at km
      have hb : addB l x = false := by unfold addB; rw [hmx]; rfl
      rw [hb] at k50
      simp only [↓vp, vq0, vq1, vq2, vq3, vr0, vr1, vr2, vr3, vr4, vr5, vr6, vr7, vr8, vr9, vr10, vr11, vr12, vr13, vr14, vr15, vr16, vr17, vr18, vr19, vr20, vr21, vr22, vr23, vr24, vr25, vr26, vr27, vr28, vr29, vr30, vr31, vr32, vr33, vr34, opS, fpS, extO, okP, pack, nAl, allocA, shId, leaves, fillA, fillR, splice, Nat.reduceLT, Nat.reduceEqDiff, Nat.reduceLeDiff, Nat.reduceAdd, Nat.reduceSub, Nat.reduceMul, Int.reduceBEq, Int.reduceBNe, Int.reduceLT, Int.reduceLE, Int.reduceEq, reduceIte, reduceCtorEq, da, int, boolA, RetP_go, resT, resC, resN, retV1, retV2, retV3, retV0, frzFZ, takeM, Option.some.injEq, dr, runC, k35, kA, km, k39, k50, p39, p50]
    | true =>
      rw [hmx] at km
      have mx := mayM_iff.1 hmx
      have w2 : IntKind.i64.wrap (x.1 + x.2) = x.1 + x.2 := wrap_i64 (by omega)
      by_cases c6 : x.1 + x.2 > 600
      · have d1 : (x.1 + x.2 > 600) = True := eq_true c6
        have d2 : (600 < x.1 + x.2) = True := eq_true c6
        simp only [↓vp, vq0, vq1, vq2, vq3, vr0, vr1, vr2, vr3, vr4, vr5, vr6, vr7, vr8, vr9, vr10, vr11, vr12, vr13, vr14, vr15, vr16, vr17, vr18, vr19, vr20, vr21, vr22, vr23, vr24, vr25, vr26, vr27, vr28, vr29, vr30, vr31, vr32, vr33, vr34, opS, fpS, extO, okP, pack, nAl, allocA, shId, leaves, fillA, fillR, splice, Nat.reduceLT, Nat.reduceEqDiff, Nat.reduceLeDiff, Nat.reduceAdd, Nat.reduceSub, Nat.reduceMul, Int.reduceBEq, Int.reduceBNe, Int.reduceLT, Int.reduceLE, Int.reduceEq, reduceIte, reduceCtorEq, da, int, boolA, RetP_go, resT, resC, resN, retV1, retV2, retV3, retV0, frzFZ, takeM, Option.some.injEq, dr, runC, k35, km, w2, d1, d2, kA]
      have d1 : (x.1 + x.2 > 600) = False := eq_false c6
      have d2 : (600 < x.1 + x.2) = False := eq_false c6
      cases hb : addB l x with
      | false =>
        rw [hb] at k50
        simp only [↓vp, vq0, vq1, vq2, vq3, vr0, vr1, vr2, vr3, vr4, vr5, vr6, vr7, vr8, vr9, vr10, vr11, vr12, vr13, vr14, vr15, vr16, vr17, vr18, vr19, vr20, vr21, vr22, vr23, vr24, vr25, vr26, vr27, vr28, vr29, vr30, vr31, vr32, vr33, vr34, opS, fpS, extO, okP, pack, nAl, allocA, shId, leaves, fillA, fillR, splice, Nat.reduceLT, Nat.reduceEqDiff, Nat.reduceLeDiff, Nat.reduceAdd, Nat.reduceSub, Nat.reduceMul, Int.reduceBEq, Int.reduceBNe, Int.reduceLT, Int.reduceLE, Int.reduceEq, reduceIte, reduceCtorEq, da, int, boolA, RetP_go, resT, resC, resN, retV1, retV2, retV3, retV0, frzFZ, takeM, Option.some.injEq, dr, runC, k35, kA, km, w2, d1, d2, k39, k50, p39, p50]
      | true =>
        rw [hb] at k50
        have hcl := cleanM_len l
        have k51 := fun K L Q => @kX_om _ _ Q _ _ _ (s51 (addM l x) (by omega) x (hx K L))
        rw [back_b hb, back_d hb] at k51
        have k6 := fun K L Q => @kX_of _ _ Q _ _ _ (s46 (cleanM l) (by omega) (hx K L))
        have ks := fun K L Q => @kset l (by omega) K L Q
        have k5 := fun K L Q => @kX_of _ _ Q _ _ _ (s45 (cleanM l) (cleanM l) (by omega) (hx K L))
        have kc := fun K L Q => @kX_of _ _ Q _ _ _ (s42 (addM l x) (by omega) (hx K L))
        have kd := fun K L Q => @kX_of _ _ Q _ _ _ (s42 (cleanM l) (by omega) (hx K L))
        have kr := fun K L Q => @kX_of _ _ Q _ _ _ (s40 (addM l x) (by omega) (hx K L))
        have kt := fun K L Q => @kX_om _ _ Q _ _ _ (s53 (cleanM l) [x] (by omega) (by simp) (hx K L))
        have hc := back_c hb
        have bd := countM_bd (l := addM l x) (by omega)
        have w3 : IntKind.i64.wrap (countM (cleanM l) + x.2) = countM (addM l x) := by rw [hc] at bd ⊢; exact wrap_i64 (by omega)
        rw [same_self] at k5
        rw [(addM_ok l x).1] at kr
        rw [back_m hb] at kt
        simp only [runC, int, boolA] at k51 k5 kc kd kr kt
        have p48 := fun args K L Q => @KW_pure ftX 48 rfl args (hx K L) Q
        have p53 := fun args K L Q => @KW_pure ftX 53 rfl args (hx K L) Q
        have kf48 : ∀ K L Q, KF ftX (.fn (.func 48) [] []) [.lst (tabC 600 fun p => inR (cleanM l) (p : Int))] (hx K L) Q ↔ Q (encR (cleanM l)) (hx K L) := fun K L Q => by
          have := Go.VI.p48 (T := ftX) rfl (tab 600 fun p => inR (cleanM l) (p : Int)) (by rw [tab_len]; omega) (args := [encT (tab 600 fun p => inR (cleanM l) (p : Int))]) (H := hx K L) (H1 := hx K L) rfl
          rw [runs_clean fl] at this
          exact KW_of this
        have kf53 : ∀ K L Q, KF ftX (.fn (.func 53) [] []) [encR (cleanM l), .lst [[.sc (.int .i64 x.1), .sc (.int .i64 x.2)]]] (hx K L) Q ↔ Q (.sc (.bool false)) (hx K L) := fun K L Q => kt K L Q
        have v36 : pureV ftX (.fn (.func 36) [] []) [] = some (false, []) := rfl
        have v46 : pureV ftX (.fn (.func 46) [] []) [encR (cleanM l)] = some (false, []) := rfl
        have v37 : pureV ftX (.fn (.func 37) [] []) [encR l, .sc (.int .i64 600)] = none := rfl
        have v37t : pureV ftX (.tup [.fn (.func 37) [] []]) [] = none := rfl
        have v48 : ∀ n, pureV ftX (.fn (.func 48) [] []) [.sl n 0 600] = some (true, [n]) := fun _ => rfl
        have v45 : pureV ftX (.fn (.func 45) [] []) [encR (cleanM l), encR (cleanM l)] = some (false, []) := rfl
        have v42 : pureV ftX (.fn (.func 42) [] []) [encR (cleanM l)] = some (false, []) := rfl
        have v42a : pureV ftX (.fn (.func 42) [] []) [encR (addM l x)] = some (false, []) := rfl
        have v40 : pureV ftX (.fn (.func 40) [] []) [encR (addM l x)] = some (false, []) := rfl
        have v53 : ∀ n, pureV ftX (.fn (.func 53) [] []) [encR (cleanM l), .sl n 0 1] = some (true, [n]) := fun _ => rfl
        simp only [↓vp, vq0, vq1, vq2, vq3, vr0, vr1, vr2, vr3, vr4, vr5, vr6, vr7, vr8, vr9, vr10, vr11, vr12, vr13, vr14, vr15, vr16, vr17, vr18, vr19, vr20, vr21, vr22, vr23, vr24, vr25, vr26, vr27, vr28, vr29, vr30, vr31, vr32, vr33, vr34, opS, fpS, extO, okP, pack, nAl, allocA, shId, leaves, fillA, fillR, splice, Nat.reduceLT, Nat.reduceEqDiff, Nat.reduceLeDiff, Nat.reduceAdd, Nat.reduceSub, Nat.reduceMul, Int.reduceBEq, Int.reduceBNe, Int.reduceLT, Int.reduceLE, Int.reduceEq, reduceIte, reduceCtorEq, da, int, boolA, dr, runC, k35, kA, km, w2, d1, d2, k39, k50, p39, p50, k51]
        simp only [↓vp, vq0, vq1, vq2, vq3, vr0, vr1, vr2, vr3, vr4, vr5, vr6, vr7, vr8, vr9, vr10, vr11, vr12, vr13, vr14, vr15, vr16, vr17, vr18, vr19, vr20, vr21, vr22, vr23, vr24, vr25, vr26, vr27, vr28, vr29, vr30, vr31, vr32, vr33, vr34, opS, fpS, extO, okP, pack, nAl, allocA, shId, leaves, fillA, fillR, splice, Nat.reduceLT, Nat.reduceEqDiff, Nat.reduceLeDiff, Nat.reduceAdd, Nat.reduceSub, Nat.reduceMul, Int.reduceBEq, Int.reduceBNe, Int.reduceLT, Int.reduceLE, Int.reduceEq, reduceIte, reduceCtorEq, da, int, boolA, RetP_go, resT, resC, resN, retV1, retV2, retV3, retV0, frzFZ, takeM, Option.some.injEq, dr, runC, k6, ks, k5, kc, kd, kr, w3, p48, p53, kf48, kf53, v36, v46, v37, v37t, v48, v45, v42, v42a, v40, v53, tabC_len, tabC_take, List.drop_zero, Nat.zero_add, Nat.le_refl, beq_self_eq_true]
end Go.VI

set_option linter.unusedVariables false
set_option linter.unusedSimpArgs false
set_option maxRecDepth 100000
namespace Go.VI
attribute [local congr] AW_congr OW_congr DW_congr NW_congr VW_congr GW_congr PW_congr KW_congr ite_congr' GV_congr CV_congr KF_congr
/-- The table of this law: Runs may be called of a row that is written again. -/
noncomputable def ftT : FT
  | 48 => some (.go false 51 r48 c48)
  | 9 => some (.go true 93 r9 c9)
  | k => ftM k
theorem ftT_sub : Sub ftM ftT := by
  intro k d h
  unfold ftT
  split
  all_goals first | exact h | (cases h; done)
theorem kT_of {f : AV} {args : List AV} {Q : AV → Heap → Prop} {v : AV} {H H' : Heap} (h : callL ft f args H = some (v, H')) : KW ftT f args H Q ↔ Q v H' := KW_of (callL_sub ftT_sub (callL_sub ftM_sub h))
theorem kT_om {f : AV} {args : List AV} {Q : AV → Heap → Prop} {v : AV} {H H' : Heap} (h : callL ftM f args H = some (v, H')) : KW ftT f args H Q ↔ Q v H' := KW_of (callL_sub ftT_sub h)
theorem frz_rr {K : Heap} {S : AV} {c : List RunM} (hr : Rep K 2 S (c.map runC)) : ∃ K', frzCells (hx K []) [encR c, S] = some ([encR c, encR c], hx K' []) := by
  obtain ⟨K', hz⟩ := frz_rep (L := []) (by rw [hx_nil]; exact hr) 21
  refine ⟨K', ?_⟩
  rw [hx_nil K']
  simp only [↓vp, vq0, vq1, vq2, vq3, vr0, vr1, vr2, vr3, vr4, vr5, vr6, vr7, vr8, vr9, vr10, vr11, vr12, vr13, vr14, vr15, vr16, vr17, vr18, vr19, vr20, vr21, vr22, vr23, vr24, vr25, vr26, vr27, vr28, vr29, vr30, vr31, vr32, vr33, vr34, opS, fpS, extO, okP, pack, nAl, allocA, shId, leaves, fillA, fillR, splice, Nat.reduceLT, Nat.reduceEqDiff, Nat.reduceLeDiff, Nat.reduceAdd, Nat.reduceSub, Nat.reduceMul, Int.reduceBEq, Int.reduceBNe, Int.reduceLT, Int.reduceLE, Int.reduceEq, reduceIte, reduceCtorEq, da, int, boolA, dr, hz]
  rfl
theorem k45r {K : Heap} {S : AV} {c : List RunM} (hr : Rep K 2 S (c.map runC)) (hl : c.length ≤ 1000) : ∃ K', ∀ Q, KW ftT (.fn (.func 45) [] []) [encR c, S] (hx K []) Q ↔ Q (.sc (.bool true)) (hx K' []) := by
  obtain ⟨K', hz⟩ := frz_rr hr
  refine ⟨K', fun Q => ?_⟩
  have := s45 c c (by omega) (hx K' [])
  rw [same_self] at this
  exact KW_of (call_frz rfl hz rfl (callL_sub ftT_sub (callL_sub ftM_sub this)))
def wantS (c : List RunM) (n : Int) (i : Nat) : Int := wantM (c.take i) n
theorem wantS_succ {c : List RunM} (hc : ∀ x ∈ c, mayM x = true) {n : Int} {i : Nat} (h : i < c.length) : wantS c n (i + 1) = if wantS c n i < 0 ∧ takeB n c[i] = true then c[i].1 else wantS c n i := by
  unfold wantS wantM
  rw [List.take_succ_eq_append_getElem h, List.find?_append]
  cases e : (c.take i).find? (takeB n) with
  | some y =>
    have := mayM_iff.1 (hc y (List.mem_of_mem_take (List.mem_of_find?_eq_some e)))
    simp only [Option.some_or]
    rw [if_neg (by omega)]
  | none =>
    simp only [Option.none_or]
    cases et : takeB n c[i] with
    | true => simp [et]
    | false => simp [et]
theorem l9 (A : AV) (n : Int) (c : List RunM) (hc : ∀ x ∈ c, mayM x = true) (hl : c.length ≤ 1000) (S B6 B7 B8 : AV) (w : List (List AV)) {Q : AExit → Env → Heap → Prop}
   (hex : ∀ f' K, K.get 0 = some (.row false 1 w) → f' 0 = A → f' 1 = int n → f' 5 = .sl 0 0 600 → f' 6 = B6 → f' 7 = B7 → f' 8 = B8 → f' 9 = int (wantM c n) → Q (.exit 0) (mkE 93 f') (hx K [])) :
   ∀ (d i : Nat) (K : Heap) (e : Nat → AV), i + d = c.length → K.get 0 = some (.row false 1 w) → RepB 1 K 2 S (c.map runC) → e 0 = A → e 1 = int n → e 5 = .sl 0 0 600 → e 6 = B6 → e 7 = B7 → e 8 = B8 → e 9 = int (wantS c n i) → e 28 = S → e 29 = int c.length → e 30 = int i →
    AW ftT (.loop c9L0) (mkE 93 e) (hx K []) Q := by
  intro d
  induction d with
  | zero =>
    intro i K e hd k0 hr q0 q1 q5 q6 q7 q8 q9 q28 q29 q30
    have g1 : ((i : Int) < c.length) = False := eq_false (by omega)
    rw [AW_loop]
    unfold c9L0
    unfold wantS at q9
    rw [List.take_of_length_le (by omega)] at q9
    simp only [↓vp, vq0, vq1, vq2, vq3, vr0, vr1, vr2, vr3, vr4, vr5, vr6, vr7, vr8, vr9, vr10, vr11, vr12, vr13, vr14, vr15, vr16, vr17, vr18, vr19, vr20, vr21, vr22, vr23, vr24, vr25, vr26, vr27, vr28, vr29, vr30, vr31, vr32, vr33, vr34, opS, fpS, extO, okP, pack, nAl, allocA, shId, leaves, fillA, fillR, splice, Nat.reduceLT, Nat.reduceEqDiff, Nat.reduceLeDiff, Nat.reduceAdd, Nat.reduceSub, Nat.reduceMul, Int.reduceBEq, Int.reduceBNe, Int.reduceLT, Int.reduceLE, Int.reduceEq, reduceIte, reduceCtorEq, da, int, boolA, q29, q30, g1]
    refine hex _ K k0 ?_ ?_ ?_ ?_ ?_ ?_ ?_ <;> simp only [↓vp, vq0, vq1, vq2, vq3, vr0, vr1, vr2, vr3, vr4, vr5, vr6, vr7, vr8, vr9, vr10, vr11, vr12, vr13, vr14, vr15, vr16, vr17, vr18, vr19, vr20, vr21, vr22, vr23, vr24, vr25, vr26, vr27, vr28, vr29, vr30, vr31, vr32, vr33, vr34, opS, fpS, extO, okP, pack, nAl, allocA, shId, leaves, fillA, fillR, splice, Nat.reduceLT, Nat.reduceEqDiff, Nat.reduceLeDiff, Nat.reduceAdd, Nat.reduceSub, Nat.reduceMul, Int.reduceBEq, Int.reduceBNe, Int.reduceLT, Int.reduceLE, Int.reduceEq, reduceIte, reduceCtorEq, da, int, boolA, q0, q1, q5, q6, q7, q8, q9]
  | succ d ih =>
    intro i K e hd k0 hr q0 q1 q5 q6 q7 q8 q9 q28 q29 q30
    have g1 : ((i : Int) < c.length) = True := eq_true (by omega)
    have gi : i < c.length := by omega
    have w1 := wrap_succ (show i < 9223372036854775807 by omega)
    obtain ⟨id, hid, hS, hg⟩ : ∃ id, 1 ≤ id ∧ S = .sl id 0 c.length ∧ K.get id = some (.row false 2 (c.map runC)) := by
      rcases hr with ⟨_, h⟩ | ⟨id, h1, h2, h3⟩
      · rw [List.map_eq_nil_iff] at h
        rw [h] at gi
        exact absurd gi (by simp)
      · rw [List.length_map] at h2
        exact ⟨id, h1, h2, h3⟩
    subst hS
    have ib := fun L => ia_rr (i := i) (get_old hg L) gi
    have cb := fun L off n => c_rr (i := i) (off := off) (n := n) (get_old hg L) gi
    have hw := wantS_succ hc (n := n) gi
    have fin : ∀ (f' : Nat → AV) (L : List Blk) (v : Int), v = wantS c n (i + 1) → f' 0 = A → f' 1 = int n → f' 5 = .sl 0 0 600 → f' 6 = B6 → f' 7 = B7 → f' 8 = B8 → f' 9 = int v → f' 28 = .sl id 0 c.length → f' 29 = int c.length → f' 30 = int ((i + 1 : Nat) : Int) → AW ftT (.loop c9L0) (mkE 93 f') (hx K L) Q := fun f' L v hv p0 p1 p5 p6 p7 p8 p9 p28 p29 p30 => by
      rw [← hx_nil (hx K L)]
      refine ih (i + 1) _ f' (by omega) (get_old k0 L) (.inr ⟨id, hid, by rw [List.length_map], get_old hg L⟩) p0 p1 p5 p6 p7 p8 ?_ p28 p29 p30
      rw [p9, hv]
    rw [AW_loop]
    unfold c9L0
    have ht : takeB n c[i] = (decide (1 ≤ n) && decide (n ≤ c[i].2)) := rfl
    by_cases c1 : wantS c n i < 0
    · have d1 : (wantS c n i < 0) = True := eq_true c1
      by_cases c2 : 1 ≤ n
      · have d2 : (n ≥ 1) = True := eq_true c2
        have d2' : (1 ≤ n) = True := eq_true c2
        by_cases c3 : n ≤ c[i].2
        · have d3 : (c[i].2 ≥ n) = True := eq_true c3
          have d3' : (n ≤ c[i].2) = True := eq_true c3
          rw [if_pos ⟨c1, by rw [ht, decide_eq_true c2, decide_eq_true c3]; rfl⟩] at hw
          simp only [↓vp, vq0, vq1, vq2, vq3, vr0, vr1, vr2, vr3, vr4, vr5, vr6, vr7, vr8, vr9, vr10, vr11, vr12, vr13, vr14, vr15, vr16, vr17, vr18, vr19, vr20, vr21, vr22, vr23, vr24, vr25, vr26, vr27, vr28, vr29, vr30, vr31, vr32, vr33, vr34, opS, fpS, extO, okP, pack, nAl, allocA, shId, leaves, fillA, fillR, splice, Nat.reduceLT, Nat.reduceEqDiff, Nat.reduceLeDiff, Nat.reduceAdd, Nat.reduceSub, Nat.reduceMul, Int.reduceBEq, Int.reduceBNe, Int.reduceLT, Int.reduceLE, Int.reduceEq, reduceIte, reduceCtorEq, da, int, boolA, dr, q0, q1, q5, q6, q7, q8, q9, q28, q29, q30, g1, ib, cb, runC, d1, d2, d2', d3, d3', w1]
          refine fin _ _ _ hw.symm ?_ ?_ ?_ ?_ ?_ ?_ ?_ ?_ ?_ ?_ <;> simp only [↓vp, vq0, vq1, vq2, vq3, vr0, vr1, vr2, vr3, vr4, vr5, vr6, vr7, vr8, vr9, vr10, vr11, vr12, vr13, vr14, vr15, vr16, vr17, vr18, vr19, vr20, vr21, vr22, vr23, vr24, vr25, vr26, vr27, vr28, vr29, vr30, vr31, vr32, vr33, vr34, opS, fpS, extO, okP, pack, nAl, allocA, shId, leaves, fillA, fillR, splice, Nat.reduceLT, Nat.reduceEqDiff, Nat.reduceLeDiff, Nat.reduceAdd, Nat.reduceSub, Nat.reduceMul, Int.reduceBEq, Int.reduceBNe, Int.reduceLT, Int.reduceLE, Int.reduceEq, reduceIte, reduceCtorEq, da, int, boolA, q0, q1, q5, q6, q7, q8, q28, q29]
        · have d3 : (c[i].2 ≥ n) = False := eq_false c3
          have d3' : (n ≤ c[i].2) = False := eq_false c3
          rw [if_neg (by rw [ht, decide_eq_false c3]; simp)] at hw
          simp only [↓vp, vq0, vq1, vq2, vq3, vr0, vr1, vr2, vr3, vr4, vr5, vr6, vr7, vr8, vr9, vr10, vr11, vr12, vr13, vr14, vr15, vr16, vr17, vr18, vr19, vr20, vr21, vr22, vr23, vr24, vr25, vr26, vr27, vr28, vr29, vr30, vr31, vr32, vr33, vr34, opS, fpS, extO, okP, pack, nAl, allocA, shId, leaves, fillA, fillR, splice, Nat.reduceLT, Nat.reduceEqDiff, Nat.reduceLeDiff, Nat.reduceAdd, Nat.reduceSub, Nat.reduceMul, Int.reduceBEq, Int.reduceBNe, Int.reduceLT, Int.reduceLE, Int.reduceEq, reduceIte, reduceCtorEq, da, int, boolA, dr, q0, q1, q5, q6, q7, q8, q9, q28, q29, q30, g1, ib, cb, runC, d1, d2, d2', d3, d3', w1]
          refine fin _ _ _ hw.symm ?_ ?_ ?_ ?_ ?_ ?_ ?_ ?_ ?_ ?_ <;> simp only [↓vp, vq0, vq1, vq2, vq3, vr0, vr1, vr2, vr3, vr4, vr5, vr6, vr7, vr8, vr9, vr10, vr11, vr12, vr13, vr14, vr15, vr16, vr17, vr18, vr19, vr20, vr21, vr22, vr23, vr24, vr25, vr26, vr27, vr28, vr29, vr30, vr31, vr32, vr33, vr34, opS, fpS, extO, okP, pack, nAl, allocA, shId, leaves, fillA, fillR, splice, Nat.reduceLT, Nat.reduceEqDiff, Nat.reduceLeDiff, Nat.reduceAdd, Nat.reduceSub, Nat.reduceMul, Int.reduceBEq, Int.reduceBNe, Int.reduceLT, Int.reduceLE, Int.reduceEq, reduceIte, reduceCtorEq, da, int, boolA, q0, q1, q5, q6, q7, q8, q9, q28, q29]
      · have d2 : (n ≥ 1) = False := eq_false c2
        have d2' : (1 ≤ n) = False := eq_false c2
        rw [if_neg (by rw [ht, decide_eq_false c2]; simp)] at hw
        simp only [↓vp, vq0, vq1, vq2, vq3, vr0, vr1, vr2, vr3, vr4, vr5, vr6, vr7, vr8, vr9, vr10, vr11, vr12, vr13, vr14, vr15, vr16, vr17, vr18, vr19, vr20, vr21, vr22, vr23, vr24, vr25, vr26, vr27, vr28, vr29, vr30, vr31, vr32, vr33, vr34, opS, fpS, extO, okP, pack, nAl, allocA, shId, leaves, fillA, fillR, splice, Nat.reduceLT, Nat.reduceEqDiff, Nat.reduceLeDiff, Nat.reduceAdd, Nat.reduceSub, Nat.reduceMul, Int.reduceBEq, Int.reduceBNe, Int.reduceLT, Int.reduceLE, Int.reduceEq, reduceIte, reduceCtorEq, da, int, boolA, dr, q0, q1, q5, q6, q7, q8, q9, q28, q29, q30, g1, ib, cb, runC, d1, d2, d2', w1]
        refine fin _ _ _ hw.symm ?_ ?_ ?_ ?_ ?_ ?_ ?_ ?_ ?_ ?_ <;> simp only [↓vp, vq0, vq1, vq2, vq3, vr0, vr1, vr2, vr3, vr4, vr5, vr6, vr7, vr8, vr9, vr10, vr11, vr12, vr13, vr14, vr15, vr16, vr17, vr18, vr19, vr20, vr21, vr22, vr23, vr24, vr25, vr26, vr27, vr28, vr29, vr30, vr31, vr32, vr33, vr34, opS, fpS, extO, okP, pack, nAl, allocA, shId, leaves, fillA, fillR, splice, Nat.reduceLT, Nat.reduceEqDiff, Nat.reduceLeDiff, Nat.reduceAdd, Nat.reduceSub, Nat.reduceMul, Int.reduceBEq, Int.reduceBNe, Int.reduceLT, Int.reduceLE, Int.reduceEq, reduceIte, reduceCtorEq, da, int, boolA, q0, q1, q5, q6, q7, q8, q9, q28, q29]
    · have d1 : (wantS c n i < 0) = False := eq_false c1
      rw [if_neg (fun h => c1 h.1)] at hw
      simp only [↓vp, vq0, vq1, vq2, vq3, vr0, vr1, vr2, vr3, vr4, vr5, vr6, vr7, vr8, vr9, vr10, vr11, vr12, vr13, vr14, vr15, vr16, vr17, vr18, vr19, vr20, vr21, vr22, vr23, vr24, vr25, vr26, vr27, vr28, vr29, vr30, vr31, vr32, vr33, vr34, opS, fpS, extO, okP, pack, nAl, allocA, shId, leaves, fillA, fillR, splice, Nat.reduceLT, Nat.reduceEqDiff, Nat.reduceLeDiff, Nat.reduceAdd, Nat.reduceSub, Nat.reduceMul, Int.reduceBEq, Int.reduceBNe, Int.reduceLT, Int.reduceLE, Int.reduceEq, reduceIte, reduceCtorEq, da, int, boolA, dr, q0, q1, q5, q6, q7, q8, q9, q28, q29, q30, g1, ib, cb, runC, d1, w1]
      refine fin _ _ _ hw.symm ?_ ?_ ?_ ?_ ?_ ?_ ?_ ?_ ?_ ?_ <;> simp only [↓vp, vq0, vq1, vq2, vq3, vr0, vr1, vr2, vr3, vr4, vr5, vr6, vr7, vr8, vr9, vr10, vr11, vr12, vr13, vr14, vr15, vr16, vr17, vr18, vr19, vr20, vr21, vr22, vr23, vr24, vr25, vr26, vr27, vr28, vr29, vr30, vr31, vr32, vr33, vr34, opS, fpS, extO, okP, pack, nAl, allocA, shId, leaves, fillA, fillR, splice, Nat.reduceLT, Nat.reduceEqDiff, Nat.reduceLeDiff, Nat.reduceAdd, Nat.reduceSub, Nat.reduceMul, Int.reduceBEq, Int.reduceBNe, Int.reduceLT, Int.reduceLE, Int.reduceEq, reduceIte, reduceCtorEq, da, int, boolA, q0, q1, q5, q6, q7, q8, q9, q28, q29]
theorem l9b (A : AV) (n : Nat) (a : Nat) (hn : a + n ≤ 600) (f : Nat → Bool) (B6 B7 B8 : AV) {Q : AExit → Env → Heap → Prop}
   (hex : ∀ f' K, K.get 0 = some (.row false 1 (tabC 600 (woT f a n))) → f' 0 = A → f' 1 = int n → f' 5 = .sl 0 0 600 → f' 6 = B6 → f' 7 = B7 → f' 8 = B8 → f' 9 = int a → Q (.exit 2) (mkE 93 f') (hx K [])) :
   ∀ (d k : Nat) (K : Heap) (e : Nat → AV), k + d = n → K.get 0 = some (.row false 1 (tabC 600 (woT f a k))) → e 0 = A → e 1 = int n → e 5 = .sl 0 0 600 → e 6 = B6 → e 7 = B7 → e 8 = B8 → e 9 = int a → e 67 = int n → e 68 = int k →
    AW ftT (.loop c9L1) (mkE 93 e) (hx K []) Q := by
  intro d
  induction d with
  | zero =>
    intro k K e hd k0 q0 q1 q5 q6 q7 q8 q9 q67 q68
    obtain rfl : k = n := by omega
    have g1 : ((k : Int) < k) = False := eq_false (by omega)
    rw [AW_loop]
    unfold c9L1
    simp only [↓vp, vq0, vq1, vq2, vq3, vr0, vr1, vr2, vr3, vr4, vr5, vr6, vr7, vr8, vr9, vr10, vr11, vr12, vr13, vr14, vr15, vr16, vr17, vr18, vr19, vr20, vr21, vr22, vr23, vr24, vr25, vr26, vr27, vr28, vr29, vr30, vr31, vr32, vr33, vr34, opS, fpS, extO, okP, pack, nAl, allocA, shId, leaves, fillA, fillR, splice, Nat.reduceLT, Nat.reduceEqDiff, Nat.reduceLeDiff, Nat.reduceAdd, Nat.reduceSub, Nat.reduceMul, Int.reduceBEq, Int.reduceBNe, Int.reduceLT, Int.reduceLE, Int.reduceEq, reduceIte, reduceCtorEq, da, int, boolA, q67, q68, g1]
    refine hex _ K k0 ?_ ?_ ?_ ?_ ?_ ?_ ?_ <;> simp only [↓vp, vq0, vq1, vq2, vq3, vr0, vr1, vr2, vr3, vr4, vr5, vr6, vr7, vr8, vr9, vr10, vr11, vr12, vr13, vr14, vr15, vr16, vr17, vr18, vr19, vr20, vr21, vr22, vr23, vr24, vr25, vr26, vr27, vr28, vr29, vr30, vr31, vr32, vr33, vr34, opS, fpS, extO, okP, pack, nAl, allocA, shId, leaves, fillA, fillR, splice, Nat.reduceLT, Nat.reduceEqDiff, Nat.reduceLeDiff, Nat.reduceAdd, Nat.reduceSub, Nat.reduceMul, Int.reduceBEq, Int.reduceBNe, Int.reduceLT, Int.reduceLE, Int.reduceEq, reduceIte, reduceCtorEq, da, int, boolA, q0, q1, q5, q6, q7, q8, q9]
  | succ d ih =>
    intro k K e hd k0 q0 q1 q5 q6 q7 q8 q9 q67 q68
    have g1 : ((k : Int) < n) = True := eq_true (by omega)
    have gi : a + k < 600 := by omega
    have w1 := wrap_succ (show k < 9223372036854775807 by omega)
    have w2 : IntKind.i64.wrap ((a : Int) + k) = ((a + k : Nat) : Int) := by rw [wrap_i64 (by omega)]; omega
    have G0 := fun L => get_old k0 L
    have lid := Heap.get_lt k0
    have i0 := fun L => ia_row (i := a + k) (len := 600) (G0 L) gi
    have r0 := tabC_at (f := woT f a k) gi
    have gs : ∀ L b, (hx K L).set 0 b = hx (K.set 0 b) L := fun L b => hx_set_old K L b 0 lid
    have hs := woT_set f 600 a k
    rw [AW_loop]
    unfold c9L1
    simp only [↓vp, vq0, vq1, vq2, vq3, vr0, vr1, vr2, vr3, vr4, vr5, vr6, vr7, vr8, vr9, vr10, vr11, vr12, vr13, vr14, vr15, vr16, vr17, vr18, vr19, vr20, vr21, vr22, vr23, vr24, vr25, vr26, vr27, vr28, vr29, vr30, vr31, vr32, vr33, vr34, opS, fpS, extO, okP, pack, nAl, allocA, shId, leaves, fillA, fillR, splice, Nat.reduceLT, Nat.reduceEqDiff, Nat.reduceLeDiff, Nat.reduceAdd, Nat.reduceSub, Nat.reduceMul, Int.reduceBEq, Int.reduceBNe, Int.reduceLT, Int.reduceLE, Int.reduceEq, reduceIte, reduceCtorEq, da, int, boolA, dr, q5, q9, q67, q68, g1, w2, i0, G0, r0, gs, hs, w1]
    refine ih (k + 1) (K.set 0 (.row false 1 (tabC 600 (woT f a (k + 1))))) _ (by omega) (by rw [Heap.get_set_self _ lid]) ?_ ?_ ?_ ?_ ?_ ?_ ?_ ?_ ?_ <;> simp only [↓vp, vq0, vq1, vq2, vq3, vr0, vr1, vr2, vr3, vr4, vr5, vr6, vr7, vr8, vr9, vr10, vr11, vr12, vr13, vr14, vr15, vr16, vr17, vr18, vr19, vr20, vr21, vr22, vr23, vr24, vr25, vr26, vr27, vr28, vr29, vr30, vr31, vr32, vr33, vr34, opS, fpS, extO, okP, pack, nAl, allocA, shId, leaves, fillA, fillR, splice, Nat.reduceLT, Nat.reduceEqDiff, Nat.reduceLeDiff, Nat.reduceAdd, Nat.reduceSub, Nat.reduceMul, Int.reduceBEq, Int.reduceBNe, Int.reduceLT, Int.reduceLE, Int.reduceEq, reduceIte, reduceCtorEq, da, int, boolA, q0, q1, q5, q6, q7, q8, q9, q67]
theorem src_tab {K : Heap} {f : Nat → Bool} (h : K.get 0 = some (.row false 1 (tabC 600 f))) : Src K.next K (.sl 0 0 600) (tab 600 f) :=
  .inr ⟨0, false, Heap.get_lt h, by rw [tab_len], h⟩
theorem s9 (l : List RunM) (n : Int) (H : Heap) : callL ftT (.fn (.func 9) [] []) [encR l, int n] H = some (boolA true, H) := by
  refine call_p (as' := [encR l, int n]) rfl rfl (by simp) ?_
  unfold c9 r9
  have k35 := fun K L Q => @kT_of _ _ Q _ _ _ (s35 l (hx K L))
  have kA := fun K L Q => @kT_om _ _ Q _ _ _ (s36 (hx K L))
  simp only [int, boolA] at k35 kA
  cases fl : few4 l with
  | false =>
    rw [fl] at k35
    simp only [↓vp, vq0, vq1, vq2, vq3, vr0, vr1, vr2, vr3, vr4, vr5, vr6, vr7, vr8, vr9, vr10, vr11, vr12, vr13, vr14, vr15, vr16, vr17, vr18, vr19, vr20, vr21, vr22, vr23, vr24, vr25, vr26, vr27, vr28, vr29, vr30, vr31, vr32, vr33, vr34, opS, fpS, extO, okP, pack, nAl, allocA, shId, leaves, fillA, fillR, splice, Nat.reduceLT, Nat.reduceEqDiff, Nat.reduceLeDiff, Nat.reduceAdd, Nat.reduceSub, Nat.reduceMul, Int.reduceBEq, Int.reduceBNe, Int.reduceLT, Int.reduceLE, Int.reduceEq, reduceIte, reduceCtorEq, da, int, boolA, RetP_go, resT, resC, resN, retV1, retV2, retV3, retV0, frzFZ, takeM, Option.some.injEq, dr, k35, kA]
  | true =>
    rw [fl] at k35
    have ll := few_len fl
    have hcl := cleanM_len l
    have hrc := runs_clean fl
    have k39 := fun K L Q => @kT_of _ _ Q _ _ _ (s39 l (by omega) (hx K L))
    have k54 := fun K L Q => @kT_om _ _ Q _ _ _ (s54 l (by omega) n (hx K L))
    have ks : ∀ K L Q, KW ftT (.fn (.func 37) [] []) [encR l, .sc (.int .i64 600)] (hx K L) Q ↔ Q (.sl (hx K L).next 0 600) (hx K (L ++ [.row false 1 (tabC 600 fun p => inR (cleanM l) (p : Int))])) := fun K L Q => by
      rw [← hx_hx]
      have := @s37 l (by omega) 600 (by omega) (by omega) (hx K L)
      rw [setM_tab] at this
      exact kT_of this
    simp only [int, boolA] at k54
    simp only [↓vp, vq0, vq1, vq2, vq3, vr0, vr1, vr2, vr3, vr4, vr5, vr6, vr7, vr8, vr9, vr10, vr11, vr12, vr13, vr14, vr15, vr16, vr17, vr18, vr19, vr20, vr21, vr22, vr23, vr24, vr25, vr26, vr27, vr28, vr29, vr30, vr31, vr32, vr33, vr34, opS, fpS, extO, okP, pack, nAl, allocA, shId, leaves, fillA, fillR, splice, Nat.reduceLT, Nat.reduceEqDiff, Nat.reduceLeDiff, Nat.reduceAdd, Nat.reduceSub, Nat.reduceMul, Int.reduceBEq, Int.reduceBNe, Int.reduceLT, Int.reduceLE, Int.reduceEq, reduceIte, reduceCtorEq, da, int, boolA, dr, k35, k39, k54, ks]
    rw [← hx_nil (hx _ _)]
    have k00 : (hx Heap.empty [.row false 1 (tabC 600 fun p => inR (cleanM l) (p : Int))]).get 0 = some (.row false 1 (tabC 600 fun p => inR (cleanM l) (p : Int))) := rfl
    refine o48 rfl (tab 600 fun p => inR (cleanM l) (p : Int)) (by rw [tab_len]; omega) (by rw [hx_nil]; exact src_tab k00) (fun S K hr hk => ?_)
    rw [hrc] at hr
    rw [hx_nil] at hr hk
    have k0 : K.get 0 = some (.row false 1 (tabC 600 fun p => inR (cleanM l) (p : Int))) := hk 0 _ (Heap.get_lt k00) k00
    have lr := fun H => len_rep (H := H) hr.rep
    rw [List.length_map] at lr
    rw [← hx_nil K]
    simp only [↓vp, vq0, vq1, vq2, vq3, vr0, vr1, vr2, vr3, vr4, vr5, vr6, vr7, vr8, vr9, vr10, vr11, vr12, vr13, vr14, vr15, vr16, vr17, vr18, vr19, vr20, vr21, vr22, vr23, vr24, vr25, vr26, vr27, vr28, vr29, vr30, vr31, vr32, vr33, vr34, opS, fpS, extO, okP, pack, nAl, allocA, shId, leaves, fillA, fillR, splice, Nat.reduceLT, Nat.reduceEqDiff, Nat.reduceLeDiff, Nat.reduceAdd, Nat.reduceSub, Nat.reduceMul, Int.reduceBEq, Int.reduceBNe, Int.reduceLT, Int.reduceLE, Int.reduceEq, reduceIte, reduceCtorEq, da, int, boolA, dr, lr]
    refine l9 (encR l) n (cleanM l) (clean_may l) (by omega) S (int (tookM l n).1) (encR (tookM l n).2.1) (boolA (tookM l n).2.2) _ (fun f' K2 k0 q0 q1 q5 q6 q7 q8 q9 => ?_) (cleanM l).length 0 K _ (by simp) k0 hr ?_ ?_ ?_ ?_ ?_ ?_ ?_ ?_ ?_ ?_
    · simp only [↓vp, vq0, vq1, vq2, vq3, vr0, vr1, vr2, vr3, vr4, vr5, vr6, vr7, vr8, vr9, vr10, vr11, vr12, vr13, vr14, vr15, vr16, vr17, vr18, vr19, vr20, vr21, vr22, vr23, vr24, vr25, vr26, vr27, vr28, vr29, vr30, vr31, vr32, vr33, vr34, opS, fpS, extO, okP, pack, nAl, allocA, shId, leaves, fillA, fillR, splice, Nat.reduceLT, Nat.reduceEqDiff, Nat.reduceLeDiff, Nat.reduceAdd, Nat.reduceSub, Nat.reduceMul, Int.reduceBEq, Int.reduceBNe, Int.reduceLT, Int.reduceLE, Int.reduceEq, reduceIte, reduceCtorEq]
      unfold c9R3
      cases hf : (cleanM l).find? (takeB n) with
      | none =>
        have hw : wantM (cleanM l) n = -1 := by unfold wantM; rw [hf]
        rw [tookM_none hf] at q6 q7 q8
        rw [hw] at q9
        have k6 := fun K L Q => @kT_of _ _ Q _ _ _ (s46 (cleanM l) (by omega) (hx K L))
        simp only [int, boolA] at q6 q8
        simp only [↓vp, vq0, vq1, vq2, vq3, vr0, vr1, vr2, vr3, vr4, vr5, vr6, vr7, vr8, vr9, vr10, vr11, vr12, vr13, vr14, vr15, vr16, vr17, vr18, vr19, vr20, vr21, vr22, vr23, vr24, vr25, vr26, vr27, vr28, vr29, vr30, vr31, vr32, vr33, vr34, opS, fpS, extO, okP, pack, nAl, allocA, shId, leaves, fillA, fillR, splice, Nat.reduceLT, Nat.reduceEqDiff, Nat.reduceLeDiff, Nat.reduceAdd, Nat.reduceSub, Nat.reduceMul, Int.reduceBEq, Int.reduceBNe, Int.reduceLT, Int.reduceLE, Int.reduceEq, reduceIte, reduceCtorEq, da, int, boolA, dr, q5, q6, q7, q8, q9, kA, k6]
        refine o48 rfl (tab 600 fun p => inR (cleanM l) (p : Int)) (by rw [tab_len]; omega) (by rw [hx_nil]; exact src_tab k0) (fun S3 K3 hr3 hk3 => ?_)
        rw [hrc] at hr3
        obtain ⟨K4, k45⟩ := k45r hr3.rep (by omega)
        rw [← hx_nil K3]
        simp only [↓vp, vq0, vq1, vq2, vq3, vr0, vr1, vr2, vr3, vr4, vr5, vr6, vr7, vr8, vr9, vr10, vr11, vr12, vr13, vr14, vr15, vr16, vr17, vr18, vr19, vr20, vr21, vr22, vr23, vr24, vr25, vr26, vr27, vr28, vr29, vr30, vr31, vr32, vr33, vr34, opS, fpS, extO, okP, pack, nAl, allocA, shId, leaves, fillA, fillR, splice, Nat.reduceLT, Nat.reduceEqDiff, Nat.reduceLeDiff, Nat.reduceAdd, Nat.reduceSub, Nat.reduceMul, Int.reduceBEq, Int.reduceBNe, Int.reduceLT, Int.reduceLE, Int.reduceEq, reduceIte, reduceCtorEq, da, int, boolA, RetP_go, resT, resC, resN, retV1, retV2, retV3, retV0, frzFZ, takeM, Option.some.injEq, dr, k45]
      | some y =>
        obtain ⟨e1, e2, e3, e4, e5, e6, e7⟩ := tookM_some hf
        have hw : wantM (cleanM l) n = y.1 := by unfold wantM; rw [hf]
        have my := mayM_iff.1 e5
        have hle := (few_clean fl).2.le y e4
        unfold endM at hle
        rw [e1] at q6 q7 q8
        rw [hw] at q9
        obtain ⟨m, rfl⟩ : ∃ m : Nat, n = (m : Int) := ⟨n.toNat, by omega⟩
        obtain ⟨a, ha⟩ : ∃ a : Nat, y.1 = (a : Int) := ⟨y.1.toNat, by omega⟩
        rw [ha] at q6 q7 q9 e2 e3
        have gneg : ((a : Int) < 0) = False := eq_false (by omega)
        simp only [↓vp, vq0, vq1, vq2, vq3, vr0, vr1, vr2, vr3, vr4, vr5, vr6, vr7, vr8, vr9, vr10, vr11, vr12, vr13, vr14, vr15, vr16, vr17, vr18, vr19, vr20, vr21, vr22, vr23, vr24, vr25, vr26, vr27, vr28, vr29, vr30, vr31, vr32, vr33, vr34, opS, fpS, extO, okP, pack, nAl, allocA, shId, leaves, fillA, fillR, splice, Nat.reduceLT, Nat.reduceEqDiff, Nat.reduceLeDiff, Nat.reduceAdd, Nat.reduceSub, Nat.reduceMul, Int.reduceBEq, Int.reduceBNe, Int.reduceLT, Int.reduceLE, Int.reduceEq, reduceIte, reduceCtorEq, da, int, boolA, dr, q1, q9, gneg]
        have ho0 : tabC 600 (woT (fun p => inR (cleanM l) (p : Int)) a 0) = tabC 600 (fun p => inR (cleanM l) (p : Int)) := tabC_congr fun p _ => by
          unfold woT
          cases e1 : decide (a ≤ p) with
          | false => simp
          | true => rw [decide_eq_false (by simp at e1; omega)]; simp
        refine l9b (encR l) m a (by omega) (fun p => inR (cleanM l) (p : Int)) (int (a : Int)) (encR (dropM (cleanM l) ((a : Int), (m : Int)))) (boolA true) (fun f' K5 k0 q0 q1 q5 q6 q7 q8 q9 => ?_) m 0 K2 _ (by omega) (by rw [ho0]; exact k0) ?_ ?_ ?_ ?_ ?_ ?_ ?_ ?_ ?_
        · simp only [↓vp, vq0, vq1, vq2, vq3, vr0, vr1, vr2, vr3, vr4, vr5, vr6, vr7, vr8, vr9, vr10, vr11, vr12, vr13, vr14, vr15, vr16, vr17, vr18, vr19, vr20, vr21, vr22, vr23, vr24, vr25, vr26, vr27, vr28, vr29, vr30, vr31, vr32, vr33, vr34, opS, fpS, extO, okP, pack, nAl, allocA, shId, leaves, fillA, fillR, splice, Nat.reduceLT, Nat.reduceEqDiff, Nat.reduceLeDiff, Nat.reduceAdd, Nat.reduceSub, Nat.reduceMul, Int.reduceBEq, Int.reduceBNe, Int.reduceLT, Int.reduceLE, Int.reduceEq, reduceIte, reduceCtorEq]
          unfold c9R2
          have hdl := dropM_len (cleanM l) ((a : Int), (m : Int))
          have k6 := fun K L Q => @kT_of _ _ Q _ _ _ (s46 (dropM (cleanM l) ((a : Int), (m : Int))) (by omega) (hx K L))
          have hruns : runsM (tab 600 (woT (fun p => inR (cleanM l) (p : Int)) a m)) = dropM (cleanM l) ((a : Int), (m : Int)) := by
            refine runs_tab (by omega) e2 (fun p hp => ?_) fun p _ => ?_
            · rw [e3, Bool.and_eq_true] at hp
              exact few_lt (few_clean fl).2 hp.1
            · rw [e3]
              unfold woT
              congr 3 <;> rw [decide_eq_decide] <;> omega
          simp only [int, boolA] at q6 q8
          simp only [↓vp, vq0, vq1, vq2, vq3, vr0, vr1, vr2, vr3, vr4, vr5, vr6, vr7, vr8, vr9, vr10, vr11, vr12, vr13, vr14, vr15, vr16, vr17, vr18, vr19, vr20, vr21, vr22, vr23, vr24, vr25, vr26, vr27, vr28, vr29, vr30, vr31, vr32, vr33, vr34, opS, fpS, extO, okP, pack, nAl, allocA, shId, leaves, fillA, fillR, splice, Nat.reduceLT, Nat.reduceEqDiff, Nat.reduceLeDiff, Nat.reduceAdd, Nat.reduceSub, Nat.reduceMul, Int.reduceBEq, Int.reduceBNe, Int.reduceLT, Int.reduceLE, Int.reduceEq, reduceIte, reduceCtorEq, da, int, boolA, dr, q5, q6, q7, q8, q9, kA, k6, beq_self_eq_true]
          refine o48 rfl (tab 600 (woT (fun p => inR (cleanM l) (p : Int)) a m)) (by rw [tab_len]; omega) (by rw [hx_nil]; exact src_tab k0) (fun S3 K3 hr3 hk3 => ?_)
          rw [hruns] at hr3
          obtain ⟨K4, k45⟩ := k45r hr3.rep (by omega)
          rw [← hx_nil K3]
          simp only [↓vp, vq0, vq1, vq2, vq3, vr0, vr1, vr2, vr3, vr4, vr5, vr6, vr7, vr8, vr9, vr10, vr11, vr12, vr13, vr14, vr15, vr16, vr17, vr18, vr19, vr20, vr21, vr22, vr23, vr24, vr25, vr26, vr27, vr28, vr29, vr30, vr31, vr32, vr33, vr34, opS, fpS, extO, okP, pack, nAl, allocA, shId, leaves, fillA, fillR, splice, Nat.reduceLT, Nat.reduceEqDiff, Nat.reduceLeDiff, Nat.reduceAdd, Nat.reduceSub, Nat.reduceMul, Int.reduceBEq, Int.reduceBNe, Int.reduceLT, Int.reduceLE, Int.reduceEq, reduceIte, reduceCtorEq, da, int, boolA, RetP_go, resT, resC, resN, retV1, retV2, retV3, retV0, frzFZ, takeM, Option.some.injEq, dr, k45]
        all_goals first | rfl | (simp only [↓vp, vq0, vq1, vq2, vq3, vr0, vr1, vr2, vr3, vr4, vr5, vr6, vr7, vr8, vr9, vr10, vr11, vr12, vr13, vr14, vr15, vr16, vr17, vr18, vr19, vr20, vr21, vr22, vr23, vr24, vr25, vr26, vr27, vr28, vr29, vr30, vr31, vr32, vr33, vr34, opS, fpS, extO, okP, pack, nAl, allocA, shId, leaves, fillA, fillR, splice, Nat.reduceLT, Nat.reduceEqDiff, Nat.reduceLeDiff, Nat.reduceAdd, Nat.reduceSub, Nat.reduceMul, Int.reduceBEq, Int.reduceBNe, Int.reduceLT, Int.reduceLE, Int.reduceEq, reduceIte, reduceCtorEq, da, int, boolA, q0, q1, q5, q6, q7, q8, q9]; done)
    all_goals first | rfl | (simp only [↓vp, vq0, vq1, vq2, vq3, vr0, vr1, vr2, vr3, vr4, vr5, vr6, vr7, vr8, vr9, vr10, vr11, vr12, vr13, vr14, vr15, vr16, vr17, vr18, vr19, vr20, vr21, vr22, vr23, vr24, vr25, vr26, vr27, vr28, vr29, vr30, vr31, vr32, vr33, vr34, opS, fpS, extO, okP, pack, nAl, allocA, shId, leaves, fillA, fillR, splice, Nat.reduceLT, Nat.reduceEqDiff, Nat.reduceLeDiff, Nat.reduceAdd, Nat.reduceSub, Nat.reduceMul, Int.reduceBEq, Int.reduceBNe, Int.reduceLT, Int.reduceLE, Int.reduceEq, reduceIte, reduceCtorEq, da, int, boolA]; done)
end Go.VI

namespace Go.Proofs
open Go.Shelf
def Try.sortRun_ren : Go.Shelf.Ren := ⟨fun | 6 => 159 | 15 => 181 | 14 => 180 | 28 => 198 | 29 => 199 | 20 => 190 | 21 => 191 | 22 => 192 | 23 => 193 | 24 => 194 | 25 => 195 | 26 => 196 | 27 => 197 | 46 => 201 | 47 => 202 | 48 => 203 | 49 => 204 | 50 => 205 | 57 => 206 | n => n, fun | 22 => 68 | 24 => 83 | 25 => 199 | 3 => 3 | 39 => 206 | 0 => 0 | 53 => 232 | 55 => 234 | 4 => 4 | 46 => 226 | 45 => 225 | 50 => 128 | 5 => 5 | 9 => 9 | 66 => 236 | 70 => 240 | 76 => 242 | 77 => 243 | n => n, fun | n => n⟩
theorem Try.sortRun : Go.Proofs.SlLaysF0.n6 Try.prog Try.sortRun_ren := {
  mixed := by kernel_rfl
  f6 := ⟨Try.f159.name, by decide, Try.func159.trans (congrArg some (by kernel_rfl))⟩
  f14 := ⟨Try.f180.name, by decide, Try.func180.trans (congrArg some (by kernel_rfl))⟩
  f15 := Try.func181.trans (congrArg some (by kernel_rfl))
  f20 := ⟨Try.f190.name, by decide, Try.func190.trans (congrArg some (by kernel_rfl))⟩
  f21 := ⟨Try.f191.name, by decide, Try.func191.trans (congrArg some (by kernel_rfl))⟩
  f22 := ⟨Try.f192.name, by decide, Try.func192.trans (congrArg some (by kernel_rfl))⟩
  f23 := ⟨Try.f193.name, by decide, Try.func193.trans (congrArg some (by kernel_rfl))⟩
  f24 := ⟨Try.f194.name, by decide, Try.func194.trans (congrArg some (by kernel_rfl))⟩
  f25 := ⟨Try.f195.name, by decide, Try.func195.trans (congrArg some (by kernel_rfl))⟩
  f26 := ⟨Try.f196.name, by decide, Try.func196.trans (congrArg some (by kernel_rfl))⟩
  f27 := ⟨Try.f197.name, by decide, Try.func197.trans (congrArg some (by kernel_rfl))⟩
  f28 := Try.func198.trans (congrArg some (by kernel_rfl))
  f29 := Try.func199.trans (congrArg some (by kernel_rfl))
  f46 := ⟨Try.f201.name, by decide, Try.func201.trans (congrArg some (by kernel_rfl))⟩
  f47 := Try.func202.trans (congrArg some (by kernel_rfl))
  f48 := Try.func203.trans (congrArg some (by kernel_rfl))
  f49 := ⟨Try.f204.name, by decide, Try.func204.trans (congrArg some (by kernel_rfl))⟩
  f50 := ⟨Try.f205.name, by decide, Try.func205.trans (congrArg some (by kernel_rfl))⟩
  f57 := ⟨Try.f206.name, by decide, Try.func206.trans (congrArg some (by kernel_rfl))⟩
  t0 := Try.underlying0
  a0 := Try.isAgg0
  z0 := Try.sizeOf0
  v0 := Try.zeroValue0
  t3 := Try.underlying3
  a3 := Try.isAgg3
  z3 := Try.sizeOf3
  v3 := Try.zeroValue3
  t4 := Try.underlying4
  a4 := Try.isAgg4
  z4 := Try.sizeOf4
  v4 := Try.zeroValue4
  t5 := Try.underlying5
  a5 := Try.isAgg5
  z5 := Try.sizeOf5
  v5 := Try.zeroValue5
  t9 := Try.underlying9
  a9 := Try.isAgg9
  z9 := Try.sizeOf9
  v9 := Try.zeroValue9
  t22 := Try.underlying68
  a22 := Try.isAgg68
  z22 := Try.sizeOf68
  v22 := Try.zeroValue68
  t25 := Try.underlying199
  a25 := Try.isAgg199
  z25 := Try.sizeOf199
  v25 := Try.zeroValue199
  t39 := Try.underlying206
  a39 := Try.isAgg206
  z39 := Try.sizeOf206
  v39 := Try.zeroValue206
  t45 := Try.underlying225
  a45 := Try.isAgg225
  z45 := Try.sizeOf225
  v45 := Try.zeroValue225
  t46 := Try.underlying226
  a46 := Try.isAgg226
  z46 := Try.sizeOf226
  v46 := Try.zeroValue226
  t50 := Try.underlying128
  a50 := Try.isAgg128
  z50 := Try.sizeOf128
  v50 := Try.zeroValue128
  t53 := Try.underlying232
  a53 := Try.isAgg232
  z53 := Try.sizeOf232
  v53 := Try.zeroValue232
  t55 := Try.underlying234
  a55 := Try.isAgg234
  z55 := Try.sizeOf234
  v55 := Try.zeroValue234
  t66 := Try.underlying236
  a66 := Try.isAgg236
  z66 := Try.sizeOf236
  v66 := Try.zeroValue236
  t70 := Try.underlying240
  a70 := Try.isAgg240
  z70 := Try.sizeOf240
  v70 := Try.zeroValue240
  t76 := Try.underlying242
  a76 := Try.isAgg242
  z76 := Try.sizeOf242
  v76 := Try.zeroValue242
  t77 := Try.underlying243
  a77 := Try.isAgg243
  z77 := Try.sizeOf243
  v77 := Try.zeroValue243 }
end Go.Proofs

set_option linter.unusedVariables false
set_option linter.unusedSimpArgs false
namespace Go.VI
open Go.Sort Go.Proofs
def srE (x : SR) : List Value := [.int .i64 x.1.1, .int .i64 x.1.2]
theorem srE_len (x : SR) : (srE x).length = 2 := rfl
theorem srE_one (x : SR) : ∀ v ∈ srE x, v.oneCell' = true := by
  intro v hv
  simp [srE] at hv
  rcases hv with rfl | rfl <;> rfl
theorem srE_get (x : SR) (j : Nat) (h : j < 2) : (srE x)[j]! = (srE x).getD j undef := by
  match j, h with
  | 0, _ => rfl
  | 1, _ => rfl
theorem srC_get (x : SR) (j : Nat) (c : AV) (h : (srC x)[j]? = some c) : j < 2 ∧ c = .sc ((srE x).getD j undef) ∧ isSc ((srE x).getD j undef) = true := by
  match j with
  | 0 => simp [srC] at h; exact ⟨by omega, h.symm, rfl⟩
  | 1 => simp [srC] at h; exact ⟨by omega, h.symm, rfl⟩
  | j + 2 => simp [srC] at h
theorem putCells_get {β : Type} [Inhabited β] (enc : β → Value) (off : Nat) (d : Array β) (c : Array Value) (k : Nat) (hk : k < c.size) : (putCells enc off d c).getD k undef = if off ≤ k ∧ k < off + d.size then enc d[k - off]! else c.getD k undef := by
  unfold putCells
  rw [Array.getD_eq_getD_getElem?, Array.getElem?_mapIdx, Array.getElem?_eq_getElem hk, Option.map_some, Option.getD_some, Array.getD_eq_getD_getElem?, Array.getElem?_eq_getElem hk, Option.getD_some]
theorem heap_map_ne (w : World) (blk : Nat) (f : Array Value → Array Value) (b : Nat) (h : b ≠ blk) : (mapBlock w blk f).heap[b]? = w.heap[b]? := by
  simp only [mapBlock, Array.getElem?_modify]
  rw [if_neg (Ne.symm h)]
theorem heap_map_at (w : World) (blk : Nat) (f : Array Value → Array Value) (c : Array Value) (t : TypeId) (fr : Nat × Nat) (h : w.heap[blk]? = some (.cells c t fr)) : (mapBlock w blk f).heap[blk]? = some (.cells (f c) t fr) := by
  simp only [mapBlock, Array.getElem?_modify]
  rw [if_true, h]
  rfl
section
variable {P : Program}
/-- A sorted row stands. -/
theorem sorted_inv {m : Mp} {F : Fz} {H : Heap} {w : World} (hI : Inv P m F H w) {id : Nat} {mb : MB} (hm : m id = some mb) {l l' : List SR} (hg : H.get id = some (.row false 2 (l.map srC))) (hl : l'.length = l.length) (n : Nat) (os : Array Obj) :
    Inv P m F (H.set id (.row false 2 (l'.map srC))) (sortWorldK srE 2 w mb.cb mb.base n l'.toArray os) ∧ Ext m F w m F (sortWorldK srE 2 w mb.cb mb.base n l'.toArray os) := by
  obtain ⟨vs, hcb, hsz, hcn, hfit, hrl, hrc, hF, _, hfull⟩ := hI.blk id mb _ hm hg
  obtain ⟨⟨rsF, f1, f2, f3⟩, hum⟩ := hfull rfl
  have hF := hF rfl
  have hblk := hcb.lt
  rw [List.length_map] at hcn f2
  obtain ⟨t, fr, hb0, hfr⟩ := hcb
  let fl := flatK srE 2 l'.toArray
  have hfls : fl.size = l.length * 2 := by simp [fl, hl]
  let vs' := putCells _root_.id mb.base fl vs
  have hvs' : vs'.size = vs.size := by simp [vs', putCells]
  generalize hw' : sortWorldK srE 2 w mb.cb mb.base n l'.toArray os = w'
  have hne : ∀ b, b < w.heap.size → b ≠ mb.cb → w'.heap[b]? = w.heap[b]? := fun b h1 h2 => by
    rw [← hw']
    unfold sortWorldK putRowK putRow
    rw [heap_grow_old _ _ (by simp [mapBlock]; exact h1), heap_map_ne _ _ _ _ h2]
    rfl
  have hat : w'.heap[mb.cb]? = some (.cells vs' t fr) := by
    rw [← hw']
    unfold sortWorldK putRowK putRow
    rw [heap_grow_old _ _ (by simp [mapBlock]; exact hblk)]
    exact heap_map_at (Go.Sort.ahead w n) _ _ _ _ _ hb0
  have hsize : w.heap.size ≤ w'.heap.size := by
    rw [← hw']
    exact size_sortWorldK_c srE 2 w mb.cb mb.base n l'.toArray os
  have hcb' : CB w' mb.cb vs' := ⟨t, fr, hat, by rw [hvs']; exact hfr⟩
  have hl2 : l.length * 2 ≤ mb.cn * 2 := Nat.mul_le_mul_right _ hcn
  have hcell : ∀ (i : Nat) (x : SR) (j : Nat) (c : AV), l'[i]? = some x → (srC x)[j]? = some c → c.one = true ∧ VF F c (vs'.getD (mb.base + i * 2 + j) undef) := fun i x j c hx hc => by
    obtain ⟨hj, rfl, hs⟩ := srC_get x j c hc
    have hi := (List.getElem?_eq_some_iff.1 hx).1
    refine ⟨rfl, ?_⟩
    have hk : mb.base + i * 2 + j < vs.size := by omega
    have : vs'.getD (mb.base + i * 2 + j) undef = (srE x).getD j undef := by
      show (putCells _root_.id mb.base fl vs).getD _ undef = _
      rw [putCells_get _ _ _ _ _ hk, if_pos (by omega), show mb.base + i * 2 + j - mb.base = i * 2 + j by omega]
      show (flatK srE 2 l'.toArray)[i * 2 + j]! = _
      rw [get_flatK _ _ _ _ (by simp; omega), show (i * 2 + j) / 2 = i by omega, show (i * 2 + j) % 2 = j by omega]
      have : l'.toArray[i]! = x := by
        rw [getElem!_pos _ i (by simpa using hi)]
        have := List.getElem?_eq_getElem hi
        rw [hx] at this
        simpa using (Option.some.inj this).symm
      rw [this, srE_get _ _ hj]
    rw [this]
    exact .sc hs
  have hwell : w'.tape = w.tape ∧ w'.os = w.os ∧ w'.output = w.output := by
    rw [← hw']
    exact ⟨rfl, rfl, rfl⟩
  refine ⟨hI.next (MLe.refl m) (FLe.refl F) (fun b o v hv => ?_) (fun j mj hj => ?_) (fun j mj B hj hB => ?_) (fun i j mi mj hi hj li lj e => hI.inj i j mi mj hi hj (live_set li (.inl (live_of hg (by simp)))) (live_set lj (.inl (live_of hg (by simp)))) e), ?_⟩
  · have : b ≠ mb.cb := fun e => by rw [e, hF o] at hv; cases hv
    rw [cell_of_heap (hne b (hI.fz_lt hv) this)]
    exact hI.fz b o v hv
  · have := hI.lt j mj hj
    simp only [Heap.next_set]
    exact ⟨this.1, by omega⟩
  · by_cases e : j = id
    · subst e
      rw [Heap.get_set_self _ (hI.lt _ _ hm).1] at hB
      cases hB
      rw [hm] at hj
      cases hj
      refine .inr ⟨vs', hcb', hsz, by simpa [hl] using hcn, by rw [hvs']; exact hfit, fun i r hr => ?_, fun i r j c hr hc => ?_, fun _ => hF, by simp, fun _ => ⟨⟨l'.map srC ++ rsF.drop l.length, ?_, ?_, ?_, ?_⟩, fun _ => ?_⟩⟩
      · rw [List.getElem?_map, Option.map_eq_some_iff] at hr
        obtain ⟨x, _, rfl⟩ := hr
        rfl
      · rw [List.getElem?_map, Option.map_eq_some_iff] at hr
        obtain ⟨x, hx, rfl⟩ := hr
        exact hcell i x j c hx hc
      · simp; omega
      · rw [List.take_left]
      · intro i r hr
        rw [hsz]
        rcases Nat.lt_or_ge i l.length with h1 | h1
        · rw [List.getElem?_append_left (by simpa [hl] using h1), List.getElem?_map, Option.map_eq_some_iff] at hr
          obtain ⟨x, _, rfl⟩ := hr
          rfl
        · rw [List.getElem?_append_right (by simpa [hl] using h1), List.getElem?_drop] at hr
          rw [← hsz]
          exact f3.len _ r hr
      · intro i r j c hr hc
        rw [hsz]
        rcases Nat.lt_or_ge i l.length with h1 | h1
        · rw [List.getElem?_append_left (by simpa [hl] using h1), List.getElem?_map, Option.map_eq_some_iff] at hr
          obtain ⟨x, hx, rfl⟩ := hr
          exact hcell i x j c hx hc
        · rw [List.getElem?_append_right (by simpa [hl] using h1), List.getElem?_drop] at hr
          rw [List.length_map, hl, show l.length + (i - l.length) = i by omega] at hr
          have := f3.cell _ r j c hr hc
          rw [hsz] at this
          have hi : i < mb.cn := by rw [← f1]; exact (List.getElem?_eq_some_iff.1 hr).1
          have hj : j < 2 := by rw [← hsz, ← f3.len i r hr]; exact (List.getElem?_eq_some_iff.1 hc).1
          have e : vs'.getD (mb.base + i * 2 + j) undef = vs.getD (mb.base + i * 2 + j) undef := by
            show (putCells _ mb.base fl vs).getD _ undef = _
            rw [putCells_get _ _ _ _ _ (by omega), if_neg (by omega)]
          rw [e]
          exact this
      · obtain ⟨us, t', hu⟩ := hum (by simp)
        rw [hb0] at hu
        injection hu with hu
        injection hu with h1 h2 h3
        exact ⟨vs', t, by rw [hat, h3]⟩
    · rw [Heap.get_set_ne _ e] at hB
      by_cases hd : B = .dead
      · subst hd
        exact .inr trivial
      · exact .inl ⟨hj, hB, hne _ (hI.lt _ _ hj).2 (cb_other hI hm hj (live_of hg (by simp)) (live_of hB hd) e), fun _ _ hv => hv⟩
  · exact ⟨MLe.refl m, FLe.refl F, hsize, hwell.1, hwell.2.1, hwell.2.2, fun b h1 h2 => hne b h1 (fun e => h2 id mb hm e.symm), fun _ _ h => .inl h, fun _ _ _ h => .inl h⟩
theorem sorted_holds {m : Mp} {F : Fz} {H : Heap} {w : World} (hI : Inv P m F H w) {id : Nat} {mb : MB} (hm : m id = some mb) {l : List SR} (hg : H.get id = some (.row false 2 (l.map srC))) : HoldsK srE 2 w mb.cb mb.base l.toArray := by
  obtain ⟨vs, hcb, hsz, hcn, hfit, hrl, hrc, _⟩ := hI.blk id mb _ hm hg
  rw [List.length_map] at hcn
  have hl2 : l.length * 2 ≤ mb.cn * 2 := Nat.mul_le_mul_right _ hcn
  intro j hj
  have hj' : j < l.length * 2 := by simpa using hj
  have hlt : mb.base + j < vs.size := by omega
  refine ⟨?_, hcb.frozen _ hlt⟩
  rw [hcb.cell _ hlt, get_flatK _ _ _ _ (by simpa using hj')]
  have hi : j / 2 < l.length := by omega
  have hx : (l.map srC)[j / 2]? = some (srC l[j / 2]) := by rw [List.getElem?_map, List.getElem?_eq_getElem hi]; rfl
  have e1 : l.toArray[j / 2]! = l[j / 2] := by
    rw [getElem!_pos _ _ (by simpa using hi)]
    simp
  rw [e1]
  have hc : (srC l[j / 2])[j % 2]? = some (.sc ((srE l[j / 2]).getD (j % 2) undef)) := by
    have : j % 2 = 0 ∨ j % 2 = 1 := by omega
    rcases this with h | h <;> rw [h] <;> rfl
  obtain ⟨_, h2⟩ := hrc _ _ _ _ hx hc
  rw [show mb.base + j / 2 * 2 + j % 2 = mb.base + j by omega] at h2
  have h3 : vs.getD (mb.base + j) undef = (srE l[j / 2]).getD (j % 2) undef := by
    generalize vs.getD (mb.base + j) undef = a at h2 ⊢
    generalize (srE l[j / 2]).getD (j % 2) undef = b at h2 ⊢
    exact (vr_sc (m := m) (.fz h2)).1
  rw [h3, srE_get _ _ (by omega)]
  rfl
/-- The sort of the program's table is the primitive. -/
theorem sortP_ok {ρ : Go.Shelf.Ren} (L : SlLaysF0.n6 P ρ) {k g : FuncId} (hk : ρ.f 6 = k) (aE : ∀ w, (isAgg (ρ.t 24)).run P w = .ok true w) (zE : ∀ w, (Go.sizeOf (ρ.t 24)).run P w = .ok 2 w)
    (ek : ∀ args w, (callFunc k args).run P w = .ok (.enter k args) w) (eg : ∀ args w, (callFunc g args).run P w = .ok (.enter g args) w)
    (hcl : ∀ (x y : SR) (W : World), Calls P g #[.agg (srE x).toArray, .agg (srE y).toArray] W fun e w' => e = .returned (.int .i64 (srCf x y)) ∧ ∃ q os', w' = grow (W.drewN q) os')
    {p : List AV → Option AV} (hp : PPrimOk P k p) (h0 : p [.lst [], .fn (.func g) [] []] = some (.tup [])) : PrimOk P k (sortP g) := by
  intro args H H' r h m F w vs hI hv
  have hfn : ∀ {n : Nat} {a : AV}, args = [a, .fn (.func n) [] []] → ∃ v, vs = #[v, .func (.func n) #[] #[]] ∧ VR m F a v := by
    intro n a e
    subst e
    have hl := hv.len
    obtain ⟨vf, vc, h1, h2, h3, _⟩ := vr_fn (hv.val 1 (.fn (.func n) [] []) rfl)
    obtain rfl : vf = #[] := Array.eq_empty_of_size_eq_zero h2
    obtain rfl : vc = #[] := Array.eq_empty_of_size_eq_zero h3
    refine ⟨vs.getD 0 undef, ?_, hv.val 0 a rfl⟩
    rw [← h1]
    refine Array.ext (by simpa using hl) fun i h1 h2 => ?_
    simp at hl
    match i with
    | 0 => simp [Array.getD_eq_getD_getElem?, h1]
    | 1 => simp [Array.getD_eq_getD_getElem?, h1]
    | i + 2 => omega
  have emp : ∀ {a : AV}, args = [a, .fn (.func g) [] []] → (∀ v, VR m F a v → ∃ A c, v = .slice A 0 c) → r = .tup [] → H' = H →
      ((callFunc k vs).run P w = .ok (.enter k vs) w ∧ Calls P k vs w (CallPost P m F H w r H')) ∨ (∃ u w', (callFunc k vs).run P w = .ok (.value u) w' ∧ CallPost P m F H w r H' (.returned u) w') := by
    intro a e ha hr hH
    subst hr hH
    obtain ⟨v, rfl, hva⟩ := hfn e
    obtain ⟨A, c, rfl⟩ := ha v hva
    refine hp _ _ h0 m F H' w _ hI rfl fun i c' hc => ?_
    match i, hc with
    | 0, hc => cases hc; exact vf_nolst F A c
    | 1, hc => cases hc; exact .fn rfl rfl (by simp) (by simp)
  unfold sortP at h
  split at h
  · rename_i id len n
    split at h
    rotate_left
    · cases h
    rename_i hn
    subst hn
    split at h
    rotate_left
    · cases h
    rename_i rows hg
    split at h
    rotate_left
    · cases h
    rename_i hlen
    obtain ⟨rfl, hle⟩ := hlen
    rw [Option.map_eq_some_iff] at h
    obtain ⟨l, hl, h⟩ := h
    cases h
    obtain rfl := srsOf_some hl
    obtain ⟨v, rfl, hva⟩ := hfn rfl
    obtain ⟨mb, cap, hm, rfl, hc1, hc2⟩ := vr_sl hva
    have hb := (hI.lt id mb hm).2
    have hsz : l.toArray.size < 4611686018427387904 := by simp at hle ⊢; omega
    have hcon := AnyQ.slices_SortFunc_eq L 2 aE zE srE srE_len srE_one srCf srSWO n #[] mb.cb mb.base cap l.toArray w eg (fun m os dk hs x y => by simpa using hcl x y _) (sorted_holds hI hm hg) hb hsz
    rw [hk] at hcon
    refine .inl ⟨ek _ _, ?_⟩
    have e1 : (.slice (some ⟨mb.cb, mb.base + 0 * mb.sz, none⟩) (l.map srC).length cap : Value) = .slice (some ⟨mb.cb, mb.base, none⟩) l.toArray.size cap := by simp
    rw [e1]
    refine hcon.mono fun en w' ⟨he, n, os, hw⟩ => ?_
    have e2 : pdq (ltOf srCf) l.toArray 0 l.toArray.size (Lib.bitLen l.toArray.size) true true = (sortL l).toArray := by
      unfold sortL
      simp
      rfl
    rw [e2] at hw
    subst hw
    obtain ⟨q1, q2⟩ := sorted_inv hI hm hg (sortL_len l) n os
    exact ⟨_, m, F, he, .fz (.tup (vs := #[]) rfl (by simp)), q1, q2, ⟨fun _ _ h => .inl h, by simp⟩⟩
  · rename_i n
    split at h
    · rename_i hn
      subst hn
      cases h
      exact emp rfl (fun v hv => ⟨none, 0, (vr_sc hv).1⟩) rfl rfl
    · cases h
  · rename_i n
    split at h
    · rename_i hn
      subst hn
      cases h
      exact emp rfl (fun v hv => by obtain ⟨A, h⟩ := vr_emp hv; exact ⟨A, 0, h⟩) rfl rfl
    · cases h
  · cases h
end
end Go.VI

set_option linter.unusedVariables false
set_option linter.unusedSimpArgs false
namespace Go.VI
/-- All cells of the first world. -/
def frzW (W : World) : Fz := fun b o => W.cell? ⟨b, o, none⟩
def CVF (F : Fz) (xs : List AV) (cs : List Value) : Prop := xs.length = cs.length ∧ ∀ i c, xs[i]? = some c → c.one = true ∧ VF F c (cs.getD i undef)
def RD (P : Program) (W : World) (t : TypeId) (E : List AV → Prop) : Prop :=
  ∀ (H : Type) (enc : TypeId × Value → H) (base : Nat) (spare : Nat → Bool) (held : Bool) (fuel : Nat) (cs : List Value) (x : DataW H × List MemPlace),
    DataW.trod enc P W base spare held fuel t cs = some x → (∀ n ∈ x.1.weights P t, n ≤ reachBytes) → ∃ xs, E xs ∧ CVF (frzW W) xs cs
theorem CVF.one {F : Fz} {a : AV} {v : Value} (h1 : a.one = true) (h : VF F a v) : CVF F [a] [v] := ⟨rfl, fun i c hc => by
  cases i with
  | zero => cases hc; exact ⟨h1, h⟩
  | succ i => simp at hc⟩
theorem CVF.cons {F : Fz} {a : AV} {v : Value} {l : List AV} {vs : List Value} (h : CVF F [a] [v]) (ht : CVF F l vs) : CVF F (a :: l) (v :: vs) := ⟨by simp [ht.1], fun i c hc => by
  cases i with
  | zero => exact h.2 0 c hc
  | succ i => exact ht.2 i c hc⟩
theorem rd_int {P : Program} {W : World} {t : TypeId} {k : IntKind} (ht : P.underlying t = some (.int k)) : RD P W t fun xs => ∃ n, xs = [.sc (.int k n)] ∧ (Lit.int k n).wf = true := fun H enc base spare held fuel cs x h _ => by
  obtain ⟨n, rfl, _, hw⟩ := DataW.trod_int ht h
  exact ⟨_, ⟨n, rfl, hw⟩, .one rfl (.sc rfl)⟩
theorem cell_flat {W : World} {a : Addr} {v : Value} (h : W.cell? a = some v) : a.spot = none := by
  cases hs : a.spot with
  | none => rfl
  | some s =>
    simp only [World.cell?] at h
    split at h
    · simp [hs] at h
    · cases h
theorem add_flat (b o i : Nat) : (Addr.mk b o none).add i = ⟨b, o + i, none⟩ := by
  unfold Addr.add
  split
  · rename_i h; subst h; rfl
  · rfl
theorem weights_all {H : Type} {P : Program} {e : TypeId} : ∀ {l : List (DataW H)} {d : DataW H}, d ∈ l → ∀ n ∈ d.weights P e, n ∈ DataW.weightsAll P e l
  | x :: l, d, hd, n, hn => by
    simp only [DataW.weightsAll, List.mem_append]
    rcases List.mem_cons.1 hd with rfl | hd
    · exact .inl hn
    · exact .inr (weights_all hd n hn)
theorem rd_slice {P : Program} {W : World} {t e : TypeId} {E : List AV → Prop} {sz B : Nat} (ht : P.underlying t = some (.slice e)) (hc : P.cellsOf e = sz) (h0 : 0 < sz) (hB : P.bytesOf e = B) (he : RD P W e E) :
    RD P W t fun xs => ∃ rows, xs = [.lst rows] ∧ (∀ r ∈ rows, E r ∧ r.length = sz) ∧ rows.length * B ≤ reachBytes := fun H enc base spare held fuel cs x h hw => by
  rcases DataW.trod_slice ht h with ⟨rfl, rfl⟩ | ⟨a, len, cap, elems, rest, n, rfl, rfl, rfl, hb, hl, hm, hlen, hel, _, _⟩
  · exact ⟨_, ⟨[], rfl, by simp, by simp⟩, .one rfl (.lst (sz := 0) (b := 0) (o := 0) (fun _ _ => undef) (Nat.le_refl _) (fun h => absurd rfl h) (by simp) (by simp) (by simp) (by simp))⟩
  · rw [hc] at hel
    have hw1 : (len + rest.length) * B ≤ reachBytes := by
      have := hw ((elems.length + rest.length) * P.bytesOf e) (by simp [DataW.weights, ht])
      rwa [hB, hlen] at this
    have each : ∀ i : Nat, ∃ r : List AV, i < len → ∃ cs, W.cells? base (a.add (i * sz)) sz = some cs ∧ E r ∧ CVF (frzW W) r cs := fun i => by
      by_cases hi : i < len
      · have hy := hel i hi
        have hi' : i < elems.length := by omega
        rw [List.getElem?_eq_getElem hi', Option.bind_eq_some_iff] at hy
        obtain ⟨cs, hcs, hy⟩ := hy
        obtain ⟨r, hr, hv⟩ := he H enc base spare held n cs _ hy fun k hk => hw k (by
          simp only [DataW.weights, ht, List.mem_cons, List.mem_append]
          exact .inr (.inl (weights_all (List.mem_map.2 ⟨elems[i], List.getElem_mem hi', rfl⟩) k hk)))
        exact ⟨r, fun _ => ⟨cs, hcs, hr, hv⟩⟩
      · exact ⟨[], fun h => absurd h hi⟩
    obtain ⟨f, hf⟩ := Classical.skolem.1 each
    have hrows : ∀ i r, ((List.range len).map f)[i]? = some r → i < len ∧ r = f i := fun i r hr => by
      rw [List.getElem?_map, Option.map_eq_some_iff] at hr
      obtain ⟨j, hj, rfl⟩ := hr
      obtain ⟨h1, h2⟩ := List.getElem?_eq_some_iff.1 hj
      rw [List.getElem_range] at h2
      rw [List.length_range] at h1
      exact ⟨h1, by rw [h2]⟩
    have hlr : ∀ i, i < len → (f i).length = sz := fun i hi => by
      obtain ⟨cs, h1, _, h2⟩ := hf i hi
      rw [h2.1, (World.cells?_some h1).2.1]
    have cell : ∀ i j, i < len → j < sz → ∃ cs, W.cells? base (a.add (i * sz)) sz = some cs ∧ W.cell? ((a.add (i * sz)).add j) = cs[j]? ∧ ∃ v, cs[j]? = some v := fun i j hi hj => by
      obtain ⟨cs, h1, _, _⟩ := hf i hi
      obtain ⟨_, h2, h3⟩ := World.cells?_some h1
      exact ⟨cs, h1, h3 j hj, _, List.getElem?_eq_getElem (by omega)⟩
    have hflat : 0 < len → a = ⟨a.block, a.off, none⟩ := fun h => by
      obtain ⟨cs, _, h1, v, h2⟩ := cell 0 0 h h0
      rw [h2] at h1
      have h3 : (a.add (0 * sz)).add 0 = a := by rw [Nat.zero_mul]; simp [Addr.add]
      rw [h3] at h1
      have := cell_flat h1
      cases a
      simp only at this
      subst this
      rfl
    have hF : ∀ i j c, i < len → (f i)[j]? = some c → c.one = true ∧ ∃ v, frzW W a.block (a.off + i * sz + j) = some v ∧ VF (frzW W) c v := fun i j c hi hc => by
      have hj : j < sz := by rw [← hlr i hi]; exact (List.getElem?_eq_some_iff.1 hc).1
      obtain ⟨cs, h1, h2, v, h3⟩ := cell i j hi hj
      obtain ⟨cs', h1', _, h4⟩ := hf i hi
      rw [h1] at h1'
      cases h1'
      obtain ⟨h5, h6⟩ := h4.2 j c hc
      refine ⟨h5, v, ?_, ?_⟩
      · rw [hflat (by omega), add_flat, add_flat, h3] at h2
        exact h2
      · have : cs.getD j undef = v := by rw [List.getD_eq_getElem?_getD, h3]; rfl
        rwa [this] at h6
    refine ⟨_, ⟨(List.range len).map f, rfl, fun r hr => ?_, ?_⟩, .one rfl ?_⟩
    · obtain ⟨i, hi, rfl⟩ := List.mem_map.1 hr
      have hi := List.mem_range.1 hi
      obtain ⟨_, _, h1, _⟩ := hf i hi
      exact ⟨h1, hlr i hi⟩
    · simp only [List.length_map, List.length_range]
      exact Nat.le_trans (Nat.mul_le_mul_right _ (by omega)) hw1
    · have hll : ((List.range len).map f).length = len := by simp
      have := VF.lst (F := frzW W) (rows := (List.range len).map f) (A := some a) (cap := cap) (sz := sz) (b := a.block) (o := a.off) (fun i j => (frzW W a.block (a.off + i * sz + j)).getD undef)
        (by simpa using hl) (fun h => by rw [← hflat (by
          cases len with
          | zero => simp at h
          | succ => omega)]) (fun i r hr => by obtain ⟨h1, rfl⟩ := hrows i r hr; exact hlr i h1)
        (fun i r j c hr hc => by obtain ⟨h1, rfl⟩ := hrows i r hr; exact (hF i j c h1 hc).1)
        (fun i r j c hr hc => by
          obtain ⟨h1, rfl⟩ := hrows i r hr
          obtain ⟨_, v, h2, _⟩ := hF i j c h1 hc
          rw [h2]; rfl)
        (fun i r j c hr hc => by
          obtain ⟨h1, rfl⟩ := hrows i r hr
          obtain ⟨_, v, h2, h3⟩ := hF i j c h1 hc
          rw [h2]; exact h3)
      rwa [hll] at this
/-- Parts, one behind the other. -/
def SE : List (List AV → Prop) → List AV → Prop
  | [], xs => xs = []
  | E :: Es, xs => ∃ a b, xs = a ++ b ∧ E a ∧ SE Es b
def consec (P : Program) : List Field → Nat → Nat → Bool
  | [], off, en => off == en
  | f :: fs, off, en => f.offset == off && consec P fs (off + P.cellsOf f.type) en
theorem consec_le {P : Program} : ∀ {fs : List Field} {off en : Nat}, consec P fs off en = true → off ≤ en
  | [], off, en, h => by simp [consec] at h; omega
  | f :: fs, off, en, h => by
    simp only [consec, Bool.and_eq_true] at h
    have := consec_le h.2
    omega
def RDs (P : Program) (W : World) : List Field → List (List AV → Prop) → Prop
  | [], [] => True
  | f :: fs, E :: Es => RD P W f.type E ∧ RDs P W fs Es
  | _, _ => False
theorem rd_fields {P : Program} {W : World} {H : Type} {enc : TypeId × Value → H} {base : Nat} {spare : Nat → Bool} {held : Bool} {n : Nat} {cs : List Value} : ∀ (fs : List Field) (Es : List (List AV → Prop)) (off : Nat) (xs : List (DataW H × List MemPlace)),
    RDs P W fs Es → consec P fs off cs.length = true → xs.length = fs.length → (∀ (i : Nat) (f : Field), fs[i]? = some f → DataW.trod enc P W base spare held n f.type ((cs.drop f.offset).take (P.cellsOf f.type)) = xs[i]?) →
    (∀ k ∈ DataW.weightsEach P (fs.map (·.type)) (xs.map (·.1)), k ≤ reachBytes) → ∃ xs, SE Es xs ∧ CVF (frzW W) xs (cs.drop off)
  | [], [], off, xs, _, hc, _, _, _ => by
    simp only [consec, beq_iff_eq] at hc
    refine ⟨[], rfl, by simp [hc], fun i c h => by simp at h⟩
  | [], _ :: _, _, _, h, _, _, _, _ => h.elim
  | _ :: _, [], _, _, h, _, _, _, _ => h.elim
  | f :: fs, E :: Es, off, [], _, _, hl, _, _ => by simp at hl
  | f :: fs, E :: Es, off, x :: xs, hr, hc, hl, ht, hw => by
    simp only [consec, Bool.and_eq_true, beq_iff_eq] at hc
    obtain ⟨ho, hc⟩ := hc
    have hle := consec_le hc
    simp only [List.map_cons, DataW.weightsEach, List.mem_append] at hw
    have h0 := ht 0 f rfl
    rw [ho] at h0
    obtain ⟨a, ha, hva⟩ := hr.1 H enc base spare held n _ x h0 fun k hk => hw k (.inl hk)
    obtain ⟨b, hb, hvb⟩ := rd_fields fs Es (off + P.cellsOf f.type) xs hr.2 hc (by simpa using hl) (fun i g hg => ht (i + 1) g hg) fun k hk => hw k (.inr hk)
    have hla : a.length = P.cellsOf f.type := by
      rw [hva.1]
      simp
      omega
    refine ⟨a ++ b, ⟨a, b, rfl, ha, hb⟩, ?_, fun i c h => ?_⟩
    · rw [List.length_append, hvb.1, hla]
      simp
      omega
    · by_cases hi : i < a.length
      · rw [List.getElem?_append_left hi] at h
        obtain ⟨h1, h2⟩ := hva.2 i c h
        refine ⟨h1, ?_⟩
        have : ((cs.drop off).take (P.cellsOf f.type)).getD i undef = (cs.drop off).getD i undef := by
          rw [List.getD_eq_getElem?_getD, List.getD_eq_getElem?_getD, List.getElem?_take_of_lt (by omega)]
        rwa [this] at h2
      · rw [List.getElem?_append_right (by omega)] at h
        obtain ⟨h1, h2⟩ := hvb.2 _ c h
        refine ⟨h1, ?_⟩
        have : (cs.drop (off + P.cellsOf f.type)).getD (i - a.length) undef = (cs.drop off).getD i undef := by
          rw [List.getD_eq_getElem?_getD, List.getD_eq_getElem?_getD, List.getElem?_drop, List.getElem?_drop]
          congr 2
          omega
        rwa [this] at h2
theorem rd_struct {P : Program} {W : World} {t : TypeId} {fs : Array Field} {Es : List (List AV → Prop)} (ht : P.underlying t = some (.struct fs)) (hc : consec P fs.toList 0 (P.cellsOf t) = true) (hr : RDs P W fs.toList Es) :
    RD P W t (SE Es) := fun H enc base spare held fuel cs x h hw => by
  obtain ⟨xs, n, rfl, rfl, hl, hx, hf⟩ := DataW.trod_struct ht h
  have := rd_fields (cs := cs) fs.toList Es 0 xs hr (by rw [hl]; exact hc) (by simpa using hx) (fun i f hi => hf i f (by simpa using hi)) (fun k hk => hw k (by simpa [DataW.weights, ht] using hk))
  simpa using this
end Go.VI

set_option linter.unusedVariables false
set_option linter.unusedSimpArgs false
namespace Go.VI
open Go.RowKit
def m0 : Mp := fun _ => none
theorem inv0 {P : Program} (W : World) : Inv P m0 (frzW W) Heap.empty W :=
  ⟨fun b o v h => h, fun id mb h => absurd h (by simp [m0]), fun id mb B h => absurd h (by simp [m0]), fun id id' mb mb' h => absurd h (by simp [m0])⟩
theorem below_of {F' : Fz} {m' : Mp} {W W' : World} (h : Ext m0 (frzW W) W m' F' W') : Below W.heap.size W W' :=
  ⟨h.os, h.tape, h.out, h.sz, fun k hk => h.blk k hk fun id mb hm => absurd hm (by simp [m0])⟩
theorem law_calls {P : Program} (hP : P.follows .mixedOrders = true) {ft : FT} (hft : FTOk P ft) {k : FuncId} {args : List AV} {vs : Array Value} {W : World} {H' : Heap} (hgo : ∃ p n rs body, ft k = some (.go p n rs body))
    (h : callL ft (.fn (.func k) [] []) args Heap.empty = some (.sc (.bool true), H')) (hv : VRs m0 (frzW W) args vs) :
    Calls P k vs W fun e W' => e = .returned (.bool true) ∧ Below W.heap.size W W' := by
  obtain ⟨n, hn⟩ := callL_some.1 h
  have hn' : callF ft (exec ft n) k args Heap.empty = some (.sc (.bool true), H') := by simpa [callV] using hn
  refine (callF_sound hP hft n hn' (inv0 W) hv hgo).mono fun e W' he => ?_
  obtain ⟨u, m', F', rfl, hu, _, hx, _⟩ := he
  refine ⟨?_, below_of hx⟩
  cases hu with
  | fz hu => cases hu; rfl
theorem go_ok {P : Program} {k : FuncId} {n : Nat} {rs : List ARes} {body : ACode} (h : compF P k = some (n, rs, body)) (hn : (P.funcs[k]?).all (fun fn => !(fn.name == "runtime.NumGoroutine")) = true) :
    ∃ fn c, P.funcs[k]? = some fn ∧ (fn.name == "runtime.NumGoroutine") = false ∧ fn.body = some c ∧ compC P c = some body ∧ fn.ntmps = n ∧ fn.results.toList.mapM (compRes P) = some rs := by
  unfold compF at h
  simp only [Option.bind_eq_some_iff, Option.map_eq_some_iff, Prod.mk.injEq] at h
  obtain ⟨fn, h1, b, h2, c, h3, rs', h4, rfl, rfl, rfl⟩ := h
  rw [h1] at hn
  exact ⟨fn, b, h1, by simpa using hn, h2, h3, rfl, h4⟩
theorem vrs_of {F : Fz} {m : Mp} {args : List AV} {vs : List Value} (h : CVF F args vs) : VRs m F args vs.toArray := by
  refine ⟨?_, ?_⟩
  · simp [h.1]
  · intro i c hc
    have := (h.2 i c hc).2
    simpa using VR.fz this
end Go.VI
