/- VI, part UB: two operations that do not meet may change places. -/
import Derived.Test.YtkjeigdiojdfnaaVUA
set_option linter.unusedVariables false
set_option linter.unusedSimpArgs false
namespace Go.VI

def Agree (ts : List Nat) (e e2 : Env) : Prop := ∀ t ∈ ts, e2.getD t .bad = e.getD t .bad
theorem ev_congr {e e2 : Env} {x : Operand} (h : Agree (slotsX x) e e2) : ev e2 x = ev e x := by
  cases x with
  | tmp t => exact h t (by simp [slotsX])
  | _ => rfl
theorem optI_congr {e e2 : Env} {x : Option Operand} (h : Agree (slotsO x) e e2) : optI e2 x = optI e x := by
  cases x with
  | none => rfl
  | some x => simp only [optI, ev_congr (x := x) h]
theorem map_ev_congr {e e2 : Env} {xs : List Operand} (h : Agree (xs.flatMap slotsX) e e2) : xs.map (ev e2) = xs.map (ev e) :=
  List.map_congr_left fun x hx => ev_congr fun t ht => h t (List.mem_flatMap.2 ⟨x, hx, ht⟩)

theorem opS_congr {pv : AV → List AV → Bool} {nid : Nat} {e e2 : Env} {H : Heap} {o : AOp} (h : Agree (slotsA o) e e2) : opS nid e2 H o = opS nid e H o ∧ fpS pv nid e2 o = fpS pv nid e o := by
  have sub : ∀ {x : Operand}, (∀ t ∈ slotsX x, t ∈ slotsA o) → ev e2 x = ev e x := fun hx => ev_congr fun t ht => h t (hx t ht)
  have subO : ∀ {x : Option Operand}, (∀ t ∈ slotsO x, t ∈ slotsA o) → optI e2 x = optI e x := fun hx => optI_congr fun t ht => h t (hx t ht)
  cases o with
  | mov x => have h1 := sub (x := x) (by simp [slotsA]); simp only [opS, fpS, h1, and_self]
  | box n x => have h1 := sub (x := x) (by simp [slotsA]); simp only [opS, fpS, h1, and_self]
  | nilck x => have h1 := sub (x := x) (by simp [slotsA]); simp only [opS, fpS, h1, and_self]
  | un n x => have h1 := sub (x := x) (by simp [slotsA]); simp only [opS, fpS, h1, and_self]
  | conv n x => have h1 := sub (x := x) (by simp [slotsA]); simp only [opS, fpS, h1, and_self]
  | stringish x => have h1 := sub (x := x) (by simp [slotsA]); simp only [opS, fpS, h1, and_self]
  | tostr x => have h1 := sub (x := x) (by simp [slotsA]); simp only [opS, fpS, h1, and_self]
  | faddr n x => have h1 := sub (x := x) (by simp [slotsA]); simp only [opS, fpS, h1, and_self]
  | field a b c x => have h1 := sub (x := x) (by simp [slotsA]); simp only [opS, fpS, h1, and_self]
  | ext x i => have h1 := sub (x := x) (by simp [slotsA]); simp only [opS, fpS, h1, and_self]
  | len n x => have h1 := sub (x := x) (by simp [slotsA]); simp only [opS, fpS, h1, and_self]
  | load a n x => have h1 := sub (x := x) (by simp [slotsA]); simp only [opS, fpS, h1, and_self]
  | isnil a n x => have h1 := sub (x := x) (by simp [slotsA]); simp only [opS, fpS, h1, and_self]
  | pick c a b =>
    have h1 := sub (x := c) (by simp +contextual [slotsA])
    have h2 := sub (x := a) (by simp +contextual [slotsA])
    have h3 := sub (x := b) (by simp +contextual [slotsA])
    simp only [opS, fpS, h1, h2, h3, and_self]
  | alloc z => exact ⟨rfl, rfl⟩
  | mkmap kd => exact ⟨rfl, rfl⟩
  | build z ps =>
    have h1 : ps.map (fun (o, n, x) => (o, n, ev e2 x)) = ps.map (fun (o, n, x) => (o, n, ev e x)) := List.map_congr_left fun p hp => by
      have := sub (x := p.2.2) fun t ht => List.mem_flatMap.2 ⟨p, hp, ht⟩
      simp only [this]
    simp only [opS, fpS, h1, and_self]
  | bslice sz z len ps =>
    have h0 : ∀ p ∈ ps, ev e2 p.2 = ev e p.2 := fun p hp => sub fun t ht => List.mem_flatMap.2 ⟨p, hp, ht⟩
    have h1 : ps.map (fun (i, x) => (i, ev e2 x)) = ps.map (fun (i, x) => (i, ev e x)) := List.map_congr_left fun p hp => by simp only [h0 p hp]
    have h2 : (ps.all fun p => closedL (ev e2 p.2).cells) = ps.all fun p => closedL (ev e p.2).cells := by
      clear h1
      induction ps with
      | nil => rfl
      | cons p ps ih =>
        simp only [List.all_cons, h0 p List.mem_cons_self]
        congr 1
        exact ih (fun t ht => h t (by simp only [slotsA, List.flatMap_cons, List.mem_append]; exact .inr ht)) (fun hx => ev_congr fun t ht => h t (by simp only [slotsA, List.flatMap_cons, List.mem_append]; exact .inr (hx t ht))) (fun hx => optI_congr fun t ht => h t (by simp only [slotsA, List.flatMap_cons, List.mem_append]; exact .inr (hx t ht))) fun q hq => h0 q (List.mem_cons_of_mem _ hq)
    simp only [opS, fpS, h1, h2, and_self]
  | store n a b =>
    have h2 := sub (x := a) (by simp +contextual [slotsA])
    have h3 := sub (x := b) (by simp +contextual [slotsA])
    simp only [opS, fpS, h2, h3, and_self]
  | bin c d a b =>
    have h2 := sub (x := a) (by simp +contextual [slotsA])
    have h3 := sub (x := b) (by simp +contextual [slotsA])
    simp only [opS, fpS, h2, h3, and_self]
  | eqs c d a b =>
    have h2 := sub (x := a) (by simp +contextual [slotsA])
    have h3 := sub (x := b) (by simp +contextual [slotsA])
    simp only [opS, fpS, h2, h3, and_self]
  | eqb d a b =>
    have h2 := sub (x := a) (by simp +contextual [slotsA])
    have h3 := sub (x := b) (by simp +contextual [slotsA])
    simp only [opS, fpS, h2, h3, and_self]
  | mx2 a b =>
    have h2 := sub (x := a) (by simp +contextual [slotsA])
    have h3 := sub (x := b) (by simp +contextual [slotsA])
    simp only [opS, fpS, h2, h3, and_self]
  | mn2 a b =>
    have h2 := sub (x := a) (by simp +contextual [slotsA])
    have h3 := sub (x := b) (by simp +contextual [slotsA])
    simp only [opS, fpS, h2, h3, and_self]
  | mkfn f xs ys =>
    have h1 := map_ev_congr (xs := xs) (e := e) (e2 := e2) fun t ht => h t (by simp only [slotsA, List.mem_append]; exact .inl ht)
    have h2 := map_ev_congr (xs := ys) (e := e) (e2 := e2) fun t ht => h t (by simp only [slotsA, List.mem_append]; exact .inr ht)
    simp only [opS, fpS, h1, h2, and_self]
  | mkslice c d z a b =>
    have h2 := sub (x := a) (by simp +contextual [slotsA])
    have h3 := sub (x := b) (by simp +contextual [slotsA])
    simp only [opS, fpS, h2, h3, and_self]
  | slice sz x a b c =>
    have h0 := sub (x := x) (by simp +contextual [slotsA])
    have h1 := subO (x := a) (by simp +contextual [slotsA])
    have h2 := subO (x := b) (by simp +contextual [slotsA])
    have h3 := subO (x := c) (by simp +contextual [slotsA])
    simp only [opS, fpS, h0, h1, h2, h3, and_self]
  | slstr x a b =>
    have h0 := sub (x := x) (by simp +contextual [slotsA])
    have h1 := subO (x := a) (by simp +contextual [slotsA])
    have h2 := subO (x := b) (by simp +contextual [slotsA])
    simp only [opS, fpS, h0, h1, h2, and_self]
  | iaddr c d a b =>
    have h2 := sub (x := a) (by simp +contextual [slotsA])
    have h3 := sub (x := b) (by simp +contextual [slotsA])
    simp only [opS, fpS, h2, h3, and_self]
  | index c d f a b =>
    have h2 := sub (x := a) (by simp +contextual [slotsA])
    have h3 := sub (x := b) (by simp +contextual [slotsA])
    simp only [opS, fpS, h2, h3, and_self]
  | app c d a b =>
    have h2 := sub (x := a) (by simp +contextual [slotsA])
    have h3 := sub (x := b) (by simp +contextual [slotsA])
    simp only [opS, fpS, h2, h3, and_self]
  | copy d a b =>
    have h2 := sub (x := a) (by simp +contextual [slotsA])
    have h3 := sub (x := b) (by simp +contextual [slotsA])
    simp only [opS, fpS, h2, h3, and_self]
  | look c d a b f =>
    have h2 := sub (x := a) (by simp +contextual [slotsA])
    have h3 := sub (x := b) (by simp +contextual [slotsA])
    simp only [opS, fpS, h2, h3, and_self]
  | mput d a b c =>
    have h1 := sub (x := c) (by simp +contextual [slotsA])
    have h2 := sub (x := a) (by simp +contextual [slotsA])
    have h3 := sub (x := b) (by simp +contextual [slotsA])
    simp only [opS, fpS, h1, h2, h3, and_self]
  | call f xs =>
    have h1 := sub (x := f) (by simp +contextual [slotsA])
    have h2 := map_ev_congr (xs := xs) (e := e) (e2 := e2) fun t ht => h t (by simp only [slotsA, List.mem_append]; exact .inr ht)
    simp only [opS, fpS, h1, h2, and_self]

/-! ### with its guard -/
def opv (cf : CF) (nid : Nat) (o : AOper) (e : Env) (H : Heap) : Option (AV × Heap) :=
  if knownA e o.guard then if wantA e o.guard then opC cf nid e H o.op else some (.tup [], H) else none
theorem oper_eq (cf : CF) (nid : Nat) (o : AOper) (e : Env) (H : Heap) : oper cf nid o e H = (opv cf nid o e H).map fun (v, H) => (putA e o.dst v, H) := by
  unfold oper opv
  split
  · split
    · rfl
    · rfl
  · rfl
theorem opC_congr {cf : CF} {nid : Nat} {e e2 : Env} {H : Heap} {o : AOp} (h : Agree (slotsA o) e e2) : opC cf nid e2 H o = opC cf nid e H o := by
  cases o with
  | call f xs =>
    have h1 := ev_congr (x := f) (e := e) (e2 := e2) fun t ht => h t (by simp only [slotsA, List.mem_append]; exact .inl ht)
    have h2 := map_ev_congr (xs := xs) (e := e) (e2 := e2) fun t ht => h t (by simp only [slotsA, List.mem_append]; exact .inr ht)
    simp only [opC, h1, h2]
  | _ => exact (opS_congr (pv := fun _ _ => false) (nid := nid) h).1
theorem opv_congr {cf : CF} {pv : AV → List AV → Bool} {nid : Nat} {e e2 : Env} {H : Heap} {o : AOper} (h : Agree (slotsG o) e e2) : opv cf nid o e2 H = opv cf nid o e H ∧ fpO pv nid e2 o = fpO pv nid e o := by
  have h1 : knownA e2 o.guard = knownA e o.guard ∧ wantA e2 o.guard = wantA e o.guard := by
    cases hg : o.guard with
    | none => exact ⟨rfl, rfl⟩
    | some g =>
      obtain ⟨t, b⟩ := g
      cases t with
      | none => exact ⟨rfl, rfl⟩
      | some t =>
        have : e2.getD t .bad = e.getD t .bad := h t (by simp [slotsG, hg])
        simp only [knownA, wantA, this, and_self]
  have h2 : Agree (slotsA o.op) e e2 := fun t ht => h t (by simp only [slotsG, List.mem_append]; exact .inl ht)
  simp only [opv, fpO, h1.1, h1.2, opC_congr h2, (opS_congr (pv := pv) (nid := nid) (H := H) h2).2, and_self]

/-- Calls that are free of the heap are so; calls never give numbers back. -/
structure CfPure (cf : CF) (pv : AV → List AV → Bool) : Prop where
  pure : ∀ f args H v H', pv f args = true → cf f args H = some (v, H') → H' = H ∧ ∀ H2, cf f args H2 = some (v, H2)
  next : ∀ f args H v H', cf f args H = some (v, H') → H.next ≤ H'.next

theorem opv_local {cf : CF} {pv : AV → List AV → Bool} (hcp : CfPure cf pv) {nid : Nat} {e : Env} {H H' H2 : Heap} {o : AOper} {v : AV} {wr : Bool} {T : List Nat}
    (hf : fpO pv nid e o = some (wr, T)) (h : opv cf nid o e H = some (v, H')) (hT : ∀ id ∈ T, H2.get id = H.get id) (hnx : allocA o.op = true → nid < H.next) :
    ∃ H2', opv cf nid o e H2 = some (v, H2') ∧ Loc T H H' H2 H2' ∧ (wr = false → H' = H ∧ H2' = H2) := by
  unfold opv at h ⊢
  unfold fpO at hf
  split at h
  rotate_left
  · cases h
  rename_i hk
  rw [if_pos hk]
  split at h
  · rename_i hw
    rw [if_pos hw] at hf ⊢
    by_cases hc : ∃ f args, o.op = .call f args
    · obtain ⟨f, args, hc⟩ := hc
      simp only [hc, opC, fpS] at h hf ⊢
      split at hf
      · rename_i hp
        cases hf
        obtain ⟨rfl, h2⟩ := hcp.pure _ _ _ _ _ hp h
        exact ⟨H2, h2 H2, .still hT, fun _ => ⟨rfl, rfl⟩⟩
      · cases hf
    · have hnc : ∀ f args, o.op ≠ .call f args := fun f args e => hc ⟨f, args, e⟩
      have hop : ∀ H0, opC cf nid e H0 o.op = opS nid e H0 o.op := fun H0 => by
        unfold opC
        split
        · exact absurd ‹_› (hnc _ _)
        · rfl
      rw [hop] at h
      rw [hop]
      exact opS_local hnc hf h hT hnx
  · rename_i hw
    rw [if_neg hw] at hf ⊢
    cases h
    cases hf
    exact ⟨H2, rfl, .still hT, fun _ => ⟨rfl, rfl⟩⟩
theorem opv_next {cf : CF} {pv : AV → List AV → Bool} (hcp : CfPure cf pv) {nid : Nat} {e : Env} {H H' : Heap} {o : AOper} {v : AV} (h : opv cf nid o e H = some (v, H')) : H.next ≤ H'.next := by
  unfold opv at h
  split at h
  · split at h
    · unfold opC at h
      split at h
      · exact hcp.next _ _ _ _ _ h
      · exact opS_next h
    · cases h; exact Nat.le_refl _
  · cases h

theorem apartA_spec {x y : AOper} (h : apartA x y = true) : (∀ d, x.dst = some d → d ∉ slotsG y ∧ y.dst ≠ some d) ∧ (∀ d, y.dst = some d → d ∉ slotsG x) := by
  refine ⟨fun d hd => ?_, fun d hd => ?_⟩ <;> simp [apartA, hd] at h
  · exact ⟨h.1.1, h.1.2⟩
  · exact h.2
theorem agree_put {ts : List Nat} {e : Env} {d : Option Nat} {v : AV} (h : ∀ t, d = some t → t ∉ ts) : Agree ts e (putA e d v) := by
  intro t ht
  cases d with
  | none => rfl
  | some s =>
    have : s ≠ t := fun e => h s rfl (e ▸ ht)
    simp only [putA]
    rw [List.getD_eq_getElem?_getD, List.getD_eq_getElem?_getD, List.getElem?_set_ne this]
theorem Agree.symm {ts : List Nat} {e e2 : Env} (h : Agree ts e e2) : Agree ts e2 e := fun t ht => (h t ht).symm
theorem putA_comm (e : Env) {x y : Option Nat} (u v : AV) (h : ∀ d, x = some d → y ≠ some d) : putA (putA e x u) y v = putA (putA e y v) x u := by
  cases x with
  | none => rfl
  | some a =>
    cases y with
    | none => rfl
    | some b => exact List.set_comm _ _ (fun e => h a rfl (by rw [e]))

/-- Their places changed. -/
theorem opv_swap {cf : CF} {pv : AV → List AV → Bool} (hcp : CfPure cf pv) {nx ny : Nat} {x y : AOper} {e : Env} {H H1 H2 : Heap} {u v : AV} (hfc : compat (fpO pv nx e x) (fpO pv ny e y) = true)
    (hx : opv cf nx x e H = some (u, H1)) (hy : opv cf ny y e H1 = some (v, H2)) (hnx : allocA x.op = true → nx < H.next) (hny : allocA y.op = true → ny < H1.next) :
    ∃ H1', opv cf ny y e H = some (v, H1') ∧ opv cf nx x e H1' = some (u, H2) := by
  have empty : ∀ {n : Nat} {o : AOper} {w : Bool} {K K' : Heap} {z : AV}, fpO pv n e o = some (w, []) → opv cf n o e K = some (z, K') → (allocA o.op = true → n < K.next) → K' = K ∧ ∀ K2, opv cf n o e K2 = some (z, K2) := fun hf h hn => by
    refine ⟨?_, fun K2 => ?_⟩
    · obtain ⟨_, _, l, _⟩ := opv_local hcp hf h (H2 := Heap.empty) (fun _ h => by cases h) hn
      exact Heap.ext fun id => l.off id (by simp)
    · obtain ⟨K3, h3, l, _⟩ := opv_local hcp hf h (H2 := K2) (fun _ h => by cases h) hn
      have : K3 = K2 := Heap.ext fun id => l.off2 id (by simp)
      rw [← this]
      rw [this] at h3 ⊢
      exact h3
  generalize hfx : fpO pv nx e x = fx at hfc
  generalize hfy : fpO pv ny e y = fy at hfc
  unfold compat at hfc
  split at hfc
  · obtain ⟨rfl, k⟩ := empty hfx hx hnx
    exact ⟨H2, hy, k H2⟩
  · obtain ⟨rfl, k⟩ := empty hfy hy hny
    exact ⟨H, k H, hx⟩
  · rename_i w1 t1 w2 t2 _ _
    simp only [Bool.or_eq_true, Bool.and_eq_true, Bool.not_eq_true', List.all_eq_true] at hfc
    by_cases hw : w1 = false ∧ w2 = false
    · obtain ⟨rfl, rfl⟩ := hw
      obtain ⟨_, _, _, k1⟩ := opv_local hcp hfx hx (H2 := H) (fun _ _ => rfl) hnx
      obtain ⟨rfl, _⟩ := k1 rfl
      obtain ⟨_, _, _, k2⟩ := opv_local hcp hfy hy (H2 := H1) (fun _ _ => rfl) hny
      obtain ⟨rfl, _⟩ := k2 rfl
      exact ⟨_, hy, hx⟩
    · have hd : ∀ i ∈ t1, i ∉ t2 := fun i hi => by
        rcases hfc with h | h
        · exact absurd h hw
        · have := h i hi
          simpa using this
      have hd2 : ∀ i ∈ t2, i ∉ t1 := fun i hi h => hd i h hi
      obtain ⟨_, _, lx, _⟩ := opv_local hcp hfx hx (H2 := H) (fun _ _ => rfl) hnx
      obtain ⟨H1', y1, ly, _⟩ := opv_local hcp hfy hy (H2 := H) (fun i hi => (lx.off i (hd2 i hi)).symm) hny
      obtain ⟨H2', x1, lx2, _⟩ := opv_local hcp hfx hx (H2 := H1') (fun i hi => ly.off2 i (hd i hi)) hnx
      refine ⟨H1', y1, ?_⟩
      have : H2' = H2 := Heap.ext fun i => by
        by_cases h1 : i ∈ t1
        · rw [lx2.on i h1, ly.off i (hd i h1)]
        · rw [lx2.off2 i h1]
          by_cases h2 : i ∈ t2
          · rw [ly.on i h2]
          · rw [ly.off2 i h2, ly.off i h2, lx.off i h1]
      rw [← this]
      exact x1
  · cases hfc

theorem oper_swap {cf : CF} {pv : AV → List AV → Bool} (hcp : CfPure cf pv) {nx ny : Nat} {x y : AOper} {e e1 e2 : Env} {H H1 H2 : Heap} (hap : apartA x y = true) (hfc : compat (fpO pv nx e x) (fpO pv ny e1 y) = true)
    (hx : oper cf nx x e H = some (e1, H1)) (hy : oper cf ny y e1 H1 = some (e2, H2)) (hnx : allocA x.op = true → nx < H.next) (hny : allocA y.op = true → ny < H1.next) :
    ∃ e1' H1', oper cf ny y e H = some (e1', H1') ∧ oper cf nx x e1' H1' = some (e2, H2) ∧ fpO pv ny e y = fpO pv ny e1 y ∧ fpO pv nx e1' x = fpO pv nx e x := by
  obtain ⟨a1, a2⟩ := apartA_spec hap
  rw [oper_eq, Option.map_eq_some_iff] at hx hy
  obtain ⟨⟨u, K1⟩, hx, h'⟩ := hx
  simp only [Prod.mk.injEq] at h'
  obtain ⟨rfl, rfl⟩ := h'
  obtain ⟨⟨v, K2⟩, hy, h'⟩ := hy
  simp only [Prod.mk.injEq] at h'
  obtain ⟨rfl, rfl⟩ := h'
  have g1 : Agree (slotsG y) e (putA e x.dst u) := agree_put fun t ht => (a1 t ht).1
  have g2 : Agree (slotsG x) e (putA e y.dst v) := agree_put fun t ht => a2 t ht
  rw [(opv_congr (cf := cf) (pv := pv) g1).1] at hy
  rw [(opv_congr (cf := cf) (H := H) (nid := ny) (pv := pv) g1).2] at hfc
  obtain ⟨H1', y1, x1⟩ := opv_swap hcp hfc hx hy hnx hny
  refine ⟨putA e y.dst v, H1', by rw [oper_eq, y1]; rfl, ?_, ((opv_congr (cf := cf) (H := H) (pv := pv) g1).2).symm, (opv_congr (cf := cf) (H := H) (pv := pv) g2).2⟩
  rw [oper_eq, (opv_congr (cf := cf) (pv := pv) g2).1, x1]
  simp only [Option.map_some, Option.some.injEq, Prod.mk.injEq, and_true]
  exact (putA_comm e u v fun d hd => (a1 d hd).2).symm
end Go.VI
