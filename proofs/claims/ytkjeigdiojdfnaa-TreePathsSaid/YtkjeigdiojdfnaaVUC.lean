/- VI, part UC: a region of open order comes to what the text's order tells. -/
import Derived.Test.YtkjeigdiojdfnaaVUB
import Derived.Orders
set_option linter.unusedVariables false
set_option linter.unusedSimpArgs false
namespace Go.VI

structure It where
  i : Nat
  o : AOper
  nid : Nat
  fp : FP

def St (cf : CF) (pv : AV → List AV → Bool) (x : It) (s s' : Env × Heap) : Prop := oper cf x.nid x.o s.1 s.2 = some s' ∧ fpO pv x.nid s.1 x.o = x.fp
def RunL (cf : CF) (pv : AV → List AV → Bool) : List It → Env × Heap → Env × Heap → Prop
  | [], s, s' => s = s'
  | x :: r, s, s' => ∃ s1, St cf pv x s s1 ∧ RunL cf pv r s1 s'
def NidsLt (L : List It) (n : Nat) : Prop := ∀ x ∈ L, allocA x.o.op = true → x.nid < n

theorem St.next {cf : CF} {pv : AV → List AV → Bool} (hcp : CfPure cf pv) {x : It} {s s' : Env × Heap} (h : St cf pv x s s') : s.2.next ≤ s'.2.next := by
  obtain ⟨h, _⟩ := h
  rw [oper_eq, Option.map_eq_some_iff] at h
  obtain ⟨⟨v, K⟩, h, rfl⟩ := h
  exact opv_next hcp h

/-- One that meets none of those before it may come first. -/
theorem front {cf : CF} {pv : AV → List AV → Bool} (hcp : CfPure cf pv) {y : It} {B : List It} {s' : Env × Heap} : ∀ (A : List It) (s : Env × Heap), NidsLt (A ++ y :: B) s.2.next →
    (∀ x ∈ A, apartA x.o y.o = true ∧ compat x.fp y.fp = true) → RunL cf pv (A ++ y :: B) s s' → ∃ s1, St cf pv y s s1 ∧ RunL cf pv (A ++ B) s1 s'
  | [], s, _, _, h => h
  | x :: A, s, hn, hc, h => by
    obtain ⟨s1, hx, h⟩ := h
    have hle := hx.next hcp
    obtain ⟨s2, hy, hr⟩ := front hcp A s1 (fun z hz ha => Nat.lt_of_lt_of_le (hn z (List.mem_cons_of_mem _ hz) ha) hle) (fun z hz => hc z (List.mem_cons_of_mem _ hz)) h
    obtain ⟨c1, c2⟩ := hc x List.mem_cons_self
    obtain ⟨x1, x2⟩ := hx
    obtain ⟨y1, y2⟩ := hy
    have := oper_swap hcp (pv := pv) (x := x.o) (y := y.o) (e := s.1) (H := s.2) (e1 := s1.1) (H1 := s1.2) (e2 := s2.1) (H2 := s2.2) c1 (by rw [x2, y2]; exact c2) x1 y1 (hn x List.mem_cons_self)
      (fun ha => Nat.lt_of_lt_of_le (hn y (by simp) ha) hle)
    obtain ⟨e1', H1', b1, b2, b3, b4⟩ := this
    exact ⟨(e1', H1'), ⟨b1, by rw [b3]; exact y2⟩, s2, ⟨b2, by rw [b4]; exact x2⟩, hr⟩

/-! ### from the text's run -/
def itemsOf : Nat → Nat → List AOper → List FP → List It
  | _, _, [], _ => []
  | i, nid, o :: os, fs => ⟨i, o, nid, fs.headD none⟩ :: itemsOf (i + 1) (nid + nAl o) os fs.tail
theorem runs_RunL {cf : CF} {pv : AV → List AV → Bool} : ∀ (os : List AOper) (i nid : Nat) (e e' : Env) (H H' : Heap) (fs : List FP), runs cf pv nid os e H = some (fs, e', H') → RunL cf pv (itemsOf i nid os fs) (e, H) (e', H') ∧ fs.length = os.length
  | [], i, nid, e, e', H, H', fs, h => by
    simp only [runs, Option.some.injEq, Prod.mk.injEq] at h
    obtain ⟨rfl, rfl, rfl⟩ := h
    exact ⟨rfl, rfl⟩
  | o :: os, i, nid, e, e', H, H', fs, h => by
    simp only [runs, Option.bind_eq_some_iff, Option.map_eq_some_iff, Prod.mk.injEq] at h
    obtain ⟨⟨e1, H1⟩, h1, ⟨gs, e2, H2⟩, h2, rfl, rfl, rfl⟩ := h
    obtain ⟨a, b⟩ := runs_RunL os (i + 1) (nid + nAl o) e1 e2 H1 H2 gs h2
    exact ⟨⟨(e1, H1), ⟨h1, rfl⟩, a⟩, by simp [b]⟩
theorem items_spec : ∀ (os : List AOper) (i nid : Nat) (fs : List FP) (x : It), x ∈ itemsOf i nid os fs → i ≤ x.i ∧ os[x.i - i]? = some x.o ∧ x.fp = fs.getD (x.i - i) none ∧ nid ≤ x.nid ∧ (allocA x.o.op = true → x.nid < nid + nAls os)
  | [], i, nid, fs, x, h => by cases h
  | o :: os, i, nid, fs, x, h => by
    simp only [itemsOf, List.mem_cons] at h
    rcases h with rfl | h
    · refine ⟨Nat.le_refl _, by simp, ?_, Nat.le_refl _, fun ha => ?_⟩
      · cases fs <;> simp
      · simp only [nAls, List.map_cons, List.sum_cons, nAl]
        rw [if_pos ha]
        omega
    · obtain ⟨a, b, c, d, e⟩ := items_spec os (i + 1) (nid + nAl o) fs.tail x h
      refine ⟨by omega, ?_, ?_, by omega, fun ha => ?_⟩
      · rw [show x.i - i = (x.i - (i + 1)) + 1 by omega]
        simpa using b
      · rw [c, show x.i - i = (x.i - (i + 1)) + 1 by omega]
        cases fs <;> simp
      · have := e ha
        simp only [nAls, List.map_cons, List.sum_cons] at this ⊢
        omega
theorem items_idx : ∀ (os : List AOper) (i nid : Nat) (fs : List FP), (itemsOf i nid os fs).map (·.i) = List.range' i os.length
  | [], i, nid, fs => rfl
  | o :: os, i, nid, fs => by
    simp only [itemsOf, List.map_cons, List.length_cons, List.range'_succ]
    rw [items_idx os (i + 1) (nid + nAl o) fs.tail]
/-- Who takes a number takes one of its own. -/
theorem items_nid : ∀ (os : List AOper) (i nid : Nat) (fs : List FP) (x y : It), x ∈ itemsOf i nid os fs → y ∈ itemsOf i nid os fs → x.i < y.i → allocA x.o.op = true → x.nid < y.nid
  | [], i, nid, fs, x, y, h, _, _, _ => by cases h
  | o :: os, i, nid, fs, x, y, hx, hy, hlt, ha => by
    simp only [itemsOf, List.mem_cons] at hx hy
    rcases hx with rfl | hx
    · rcases hy with rfl | hy
      · omega
      · have := (items_spec os (i + 1) (nid + nAl o) fs.tail y hy).2.2.2.1
        have h1 : nAl o = 1 := by simp only [nAl]; rw [if_pos ha]
        show nid < y.nid
        omega
    · rcases hy with rfl | hy
      · have := (items_spec os (i + 1) (nid + nAl o) fs.tail x hx).1
        simp at hlt
        omega
      · exact items_nid os (i + 1) (nid + nAl o) fs.tail x y hx hy hlt ha

/-! ### classes -/
theorem fp_cls {pv : AV → List AV → Bool} {nid : Nat} {e : Env} {o : AOper} : (clsA o.op = 0 → fpO pv nid e o = some (false, [])) ∧ (clsA o.op = 1 → ∃ T, fpO pv nid e o = some (false, T)) ∧
    (clsA o.op = 2 → allocA o.op = true ∧ (fpO pv nid e o = some (true, [nid]) ∨ fpO pv nid e o = some (false, []))) := by
  unfold fpO
  by_cases hw : wantA e o.guard = true
  · rw [if_pos hw]
    cases o.op <;> simp [clsA, fpS, allocA]
  · rw [if_neg hw]
    refine ⟨fun _ => rfl, fun _ => ⟨_, rfl⟩, fun h => ⟨?_, .inr rfl⟩⟩
    revert h
    cases o.op <;> simp [clsA, allocA]
theorem compat_nil_l (w : Bool) (f : FP) : compat (some (w, [])) f = true := by simp [compat]
theorem compat_nil_r (w : Bool) (f : FP) : compat f (some (w, [])) = true := by
  unfold compat
  split <;> simp_all
theorem clash_compat {pv : AV → List AV → Bool} {nx ny : Nat} {e e2 : Env} {x y : AOper} (hn : allocA x.op = true → allocA y.op = true → nx ≠ ny) (h : clash (clsA x.op) (clsA y.op) = false) : compat (fpO pv nx e x) (fpO pv ny e2 y) = true := by
  obtain ⟨a0, a1, a2⟩ := fp_cls (pv := pv) (nid := nx) (e := e) (o := x)
  obtain ⟨b0, b1, b2⟩ := fp_cls (pv := pv) (nid := ny) (e := e2) (o := y)
  unfold clash at h
  split at h
  · rw [a0 ‹_›]; exact compat_nil_l _ _
  · rw [b0 ‹_›]; exact compat_nil_r _ _
  · obtain ⟨T, hT⟩ := a1 ‹_›
    obtain ⟨U, hU⟩ := b1 ‹_›
    rw [hT, hU]
    unfold compat
    split <;> simp_all
  · obtain ⟨p1, p2⟩ := a2 ‹_›
    obtain ⟨q1, q2⟩ := b2 ‹_›
    rcases p2 with p2 | p2
    · rcases q2 with q2 | q2
      · rw [p2, q2]
        have := hn p1 q1
        simp [compat, this]
      · rw [q2]; exact compat_nil_r _ _
    · rw [p2]; exact compat_nil_l _ _
  · cases h

theorem pairsAt_spec {os : List AOper} {bf : List Nat} {j : Nat} {y : AOper} : ∀ (r : List AOper) (i : Nat) (ps : List (Nat × Nat)), pairsAt os bf j y i r = some ps → ∀ (k : Nat) (x : AOper), r[k]? = some x → i + k < j →
    (bf.getD j 0).testBit (i + k) = true ∨ (apartA x y = true ∧ (clash (clsA x.op) (clsA y.op) = true → (i + k, j) ∈ ps))
  | [], i, ps, h, k, x, hx, hk => by simp at hx
  | z :: r, i, ps, h, k, x, hx, hk => by
    simp only [pairsAt, Option.bind_eq_some_iff] at h
    obtain ⟨qs, hq, h⟩ := h
    have ih := pairsAt_spec r (i + 1) qs hq
    have sub : ∀ q ∈ qs, q ∈ ps := fun q hq => by
      split at h
      · cases h; exact hq
      · split at h
        · cases h; exact hq
        · split at h
          · split at h
            · cases h; exact List.mem_cons_of_mem _ hq
            · cases h; exact hq
          · cases h
    cases k with
    | zero =>
      simp only [List.getElem?_cons_zero, Option.some.injEq] at hx
      subst hx
      rw [Nat.add_zero] at hk ⊢
      rw [if_neg (by omega)] at h
      split at h
      · exact .inl ‹_›
      · split at h
        · rename_i hap
          refine .inr ⟨hap, fun hc => ?_⟩
          rw [if_pos hc] at h
          cases h
          exact List.mem_cons_self
        · cases h
    | succ k =>
      rw [show i + (k + 1) = i + 1 + k by omega] at hk ⊢
      exact (ih k x (by simpa using hx) hk).imp_right fun ⟨a, b⟩ => ⟨a, fun c => sub _ (b c)⟩
theorem pairsOf_spec {os : List AOper} {bf : List Nat} : ∀ (r : List AOper) (j : Nat) (ps : List (Nat × Nat)), pairsOf os bf j r = some ps → ∀ (k i : Nat) (x y : AOper), r[k]? = some y → os[i]? = some x → i < j + k →
    (bf.getD (j + k) 0).testBit i = true ∨ (apartA x y = true ∧ (clash (clsA x.op) (clsA y.op) = true → (i, j + k) ∈ ps))
  | [], j, ps, h, k, i, x, y, hy, hx, hk => by simp at hy
  | z :: r, j, ps, h, k, i, x, y, hy, hx, hk => by
    simp only [pairsOf, Option.bind_eq_some_iff, Option.map_eq_some_iff] at h
    obtain ⟨p1, h1, p2, h2, rfl⟩ := h
    cases k with
    | zero =>
      simp only [List.getElem?_cons_zero, Option.some.injEq] at hy
      subst hy
      rw [Nat.add_zero] at hk ⊢
      have := pairsAt_spec os 0 p1 h1 i x hx (by omega)
      rw [Nat.zero_add] at this
      exact this.imp_right fun ⟨a, b⟩ => ⟨a, fun c => List.mem_append_left _ (b c)⟩
    | succ k =>
      rw [show j + (k + 1) = j + 1 + k by omega] at hk ⊢
      exact (pairsOf_spec r (j + 1) p2 h2 k i x y (by simpa using hy) hx hk).imp_right fun ⟨a, b⟩ => ⟨a, fun c => List.mem_append_right _ (b c)⟩

/-! ### elder ones -/
theorem testBit_foldl (acc : List Nat) (k : Nat) : ∀ (ns : List Nat) (b : Nat), (ns.foldl (fun b i => b ||| (1 <<< i) ||| acc.getD i 0) b).testBit k = true → b.testBit k = true ∨ ∃ i ∈ ns, k = i ∨ (acc.getD i 0).testBit k = true
  | [], b, h => .inl h
  | n :: ns, b, h => by
    rcases testBit_foldl acc k ns _ h with h | ⟨i, hi, h⟩
    · simp only [Nat.testBit_or, Bool.or_eq_true, Nat.testBit_shiftLeft, Bool.and_eq_true] at h
      rcases h with (h | h) | h
      · exact .inl h
      · refine .inr ⟨n, List.mem_cons_self, .inl ?_⟩
        obtain ⟨h1, h2⟩ := h
        have h3 : k - n = 0 := Nat.testBit_one_eq_true_iff_self_eq_zero.1 h2
        have h1 := of_decide_eq_true h1
        omega
      · exact .inr ⟨n, List.mem_cons_self, .inr h⟩
    · exact .inr ⟨i, List.mem_cons_of_mem _ hi, h⟩
/-- The bits lead to ones that are needed. -/
theorem closeB_spec (D : Nat → Prop) : ∀ (r : List (List Nat)) (acc : List Nat) (all : List (List Nat)), (∀ i, i < acc.length → (∀ n ∈ all.getD i [], D n) → ∀ k, (acc.getD i 0).testBit k = true → D k) →
    (∀ i, i < all.length → D i → ∀ n ∈ all.getD i [], D n) → all.length = acc.length + r.length → (∀ i, i < r.length → all.getD (acc.length + i) [] = r.getD i []) →
    (∀ i, i < all.length → ∀ n ∈ all.getD i [], n < i) →
    ∀ i, i < all.length → (∀ n ∈ all.getD i [], D n) → ∀ k, ((closeB acc r).getD i 0).testBit k = true → D k
  | [], acc, all, ha, hd, hl, hr, he, i, hi, hn, k, hk => ha i (by rw [hl] at hi; simpa using hi) hn k hk
  | ns :: r, acc, all, ha, hd, hl, hr, he, i, hi, hn, k, hk => by
    refine closeB_spec D r (acc ++ [bitsOf acc ns]) all (fun j hj hjn q hq => ?_) hd (by simp [hl]; omega) (fun j hj => ?_) he i hi hn k hk
    · simp only [List.length_append, List.length_cons, List.length_nil] at hj
      rcases Nat.lt_or_ge j acc.length with h | h
      · rw [List.getD_eq_getElem?_getD, List.getElem?_append_left h, ← List.getD_eq_getElem?_getD] at hq
        exact ha j h hjn q hq
      · have : j = acc.length := by omega
        subst this
        rw [List.getD_eq_getElem?_getD, List.getElem?_append_right (Nat.le_refl _)] at hq
        simp only [Nat.sub_self, List.getElem?_cons_zero, Option.getD_some, bitsOf] at hq
        have hns : all.getD acc.length [] = ns := by
          have := hr 0 (by simp)
          simpa using this
        rcases testBit_foldl acc q ns 0 hq with h0 | ⟨n, hn', h0⟩
        · simp at h0
        · have hDn : D n := hjn n (by rw [hns]; exact hn')
          rcases h0 with rfl | h0
          · exact hDn
          · have hlt : n < acc.length := he acc.length (by rw [hl]; simp) n (by rw [hns]; exact hn')
            exact ha n hlt (hd n (by omega) hDn) q h0
    · have := hr (j + 1) (by simp; omega)
      simp only [List.length_append, List.length_cons, List.length_nil]
      rw [show acc.length + (0 + 1) + j = acc.length + (j + 1) by omega, this]
      simp
theorem elder_spec : ∀ (r : List (List Nat)) (i : Nat), elder i r = true → ∀ k, k < r.length → ∀ n ∈ r.getD k [], n < i + k
  | [], i, _, k, hk, _, _ => by simp at hk
  | ns :: r, i, h, k, hk, n, hn => by
    simp only [elder, Bool.and_eq_true, List.all_eq_true, decide_eq_true_eq] at h
    cases k with
    | zero => exact h.1 n (by simpa using hn)
    | succ k =>
      have := elder_spec r (i + 1) h.2 k (by simpa using hk) n (by simpa using hn)
      omega
end Go.VI
