/- VI, part UE: the game of a region of open order. -/
import Derived.Test.YtkjeigdiojdfnaaVUC
set_option linter.unusedVariables false
set_option linter.unusedSimpArgs false
namespace Go.VI

theorem mapM_get {α β : Type} {f : α → Option β} : ∀ {l : List α} {r : List β}, l.mapM f = some r → r.length = l.length ∧ ∀ (i : Nat) (x : α) (y : β), l[i]? = some x → r[i]? = some y → f x = some y
  | [], r, h => by simp at h; subst h; simp
  | x :: l, r, h => by
    simp only [List.mapM_cons, Option.bind_eq_bind, Option.bind_eq_some_iff] at h
    obtain ⟨y, hy, ys, hys, h⟩ := h
    cases h
    obtain ⟨h1, h2⟩ := mapM_get hys
    refine ⟨by simp [h1], fun i p q hp hq => ?_⟩
    cases i with
    | zero => simp at hp hq; subst hp; subst hq; exact hy
    | succ i => exact h2 i p q (by simpa using hp) (by simpa using hq)

theorem mem_needs {o : Oper} {n : Nat} : n ∈ needs o ↔ ∃ e ∈ o.after, Region.binds .any e = true ∧ e.on = n := by
  simp only [needs, List.mem_filterMap, Array.mem_toList_iff]
  constructor
  · rintro ⟨e, he, h⟩
    split at h
    · cases h
      exact ⟨e, he, ‹_›, rfl⟩
    · cases h
  · rintro ⟨e, he, h, rfl⟩
    exact ⟨e, he, by rw [if_pos h]⟩
def needsL (ops : Array Oper) : List (List Nat) := ops.toList.map needs
theorem needsL_at {ops : Array Oper} {i : Nat} {o : Oper} (h : ops[i]? = some o) : (needsL ops).getD i [] = needs o := by
  simp [needsL, List.getD_eq_getElem?_getD, h]

/-- What the items of a region are. -/
structure Full (ops : Array Oper) (os : List AOper) (L0 : List It) (base : Nat) : Prop where
  at_ : ∀ x ∈ L0, os[x.i]? = some x.o ∧ base ≤ x.nid
  pair : ∀ x ∈ L0, ∀ y ∈ L0, x.i < y.i → ((befores ops).getD y.i 0).testBit x.i = true ∨ (apartA x.o y.o = true ∧ compat x.fp y.fp = true)
  nid : ∀ x ∈ L0, ∀ y ∈ L0, x.i < y.i → allocA x.o.op = true → x.nid < y.nid
  elder : elder 0 (needsL ops) = true

theorem game {P : Program} {cf : CF} {pv : AV → List AV → Bool} (hcf : CfOk P cf) (hcp : CfPure cf pv) {ops : Array Oper} {os : List AOper} (hc : ops.toList.mapM (compOper P ops) = some os) {L0 : List It} {base : Nat} (G : Full ops os L0 base)
    {m0 : Mp} {F0 : Fz} {w0 : World} {e' : Env} {H' : Heap} {Q : Exit → Act → World → Prop}
    (hq : ∀ a' w' m' F', Sit m' F' H' w' e' a' → Ext m0 F0 w0 m' F' w' → a'.defers = [] → Grew base m0 m' H' → Q .normal a' w') :
    ∀ (fuel : Nat) (L : List It) (listed : Array Bool) (m : Mp) (F : Fz) (H : Heap) (w : World) (e : Env) (a : Act), Sit m F H w e a → a.defers = [] → Ext m0 F0 w0 m F w → Grew base m0 m H → RunL cf pv L (e, H) (e', H') →
      NidsLt L H.next → (∀ x ∈ L, allocA x.o.op = true → m x.nid = none) → (∀ x ∈ L, x ∈ L0) → L.Pairwise (fun x y => x.i < y.i) → (∀ i, listed.getD i true = false ↔ ∃ x ∈ L, x.i = i) → listed.size = ops.size →
      (∀ i, i < ops.size → listed.getD i true = true → ∀ n ∈ (needsL ops).getD i [], listed.getD n true = true) → L.length ≤ fuel → wpAny P .any ops Q fuel listed a w := by
  obtain ⟨hl, hget⟩ := mapM_get hc
  have hel : ∀ i, i < ops.size → ∀ n ∈ (needsL ops).getD i [], n < i := fun i hi n hn => by
    have := elder_spec (needsL ops) 0 G.elder i (by simpa [needsL] using hi) n hn
    omega
  have hopat : ∀ x ∈ L0, ∃ o, ops[x.i]? = some o ∧ compOper P ops o = some x.o := fun x hx => by
    have h1 := (G.at_ x hx).1
    have h2 : x.i < ops.size := by
      have := (List.getElem?_eq_some_iff.1 h1).1
      rw [hl] at this
      simpa using this
    exact ⟨ops[x.i], by simp [h2], hget x.i _ _ (by simp [h2]) h1⟩
  intro fuel
  induction fuel with
  | zero =>
    intro L listed m F H w e a hs hd hE hG hr hn hf hL hp hi hsz hdn hlen
    have : L = [] := List.eq_nil_of_length_eq_zero (by omega)
    subst this
    cases hr
    refine ⟨?_, hq a w m F hs hE hd hG⟩
    rw [List.eq_nil_iff_forall_not_mem]
    intro i hi'
    obtain ⟨x, hx, _⟩ := (hi i).1 (mem_ready.1 hi').1
    cases hx
  | succ fuel ih =>
    intro L listed m F H w e a hs hd hE hG hr hn hf hL hp hi hsz hdn hlen
    refine ⟨fun hempty => ?_, fun i hrd => ?_⟩
    · cases L with
      | nil => cases hr; exact hq a w m F hs hE hd hG
      | cons x r =>
        exfalso
        have hx0 := hL x List.mem_cons_self
        obtain ⟨o, ho, _⟩ := hopat x hx0
        have hxs := (Array.getElem?_eq_some_iff.1 ho).1
        have : x.i ∈ Region.ready .any ops listed := mem_ready.2 ⟨(hi x.i).2 ⟨x, List.mem_cons_self, rfl⟩, o, ho, fun ed he hb => by
          have hlt := hel x.i hxs ed.on (by rw [needsL_at ho]; exact mem_needs.2 ⟨ed, he, hb, rfl⟩)
          have h1 : listed.getD ed.on true = true := by
            cases hh : listed.getD ed.on true with
            | true => rfl
            | false =>
              obtain ⟨z, hz, hzi⟩ := (hi ed.on).1 hh
              rcases List.mem_cons.1 hz with rfl | hz
              · omega
              · have := List.rel_of_pairwise_cons hp hz
                omega
          have h2 : ed.on < listed.size := by omega
          simpa [h2] using h1⟩
        rw [hempty] at this
        cases this
    · obtain ⟨hun, o, ho, hall⟩ := mem_ready.1 hrd
      obtain ⟨y, hy, rfl⟩ := (hi i).1 hun
      obtain ⟨A, B, rfl⟩ := List.append_of_mem hy
      have hy0 := hL y hy
      have hys := (Array.getElem?_eq_some_iff.1 ho).1
      rw [List.pairwise_append] at hp
      obtain ⟨hpA, hpB, hpAB⟩ := hp
      have hAlt : ∀ x ∈ A, x.i < y.i := fun x hx => hpAB x hx y List.mem_cons_self
      have hBlt : ∀ x ∈ B, y.i < x.i := fun x hx => List.rel_of_pairwise_cons hpB hx
      have hready : ∀ n ∈ (needsL ops).getD y.i [], listed.getD n true = true := fun n hn' => by
        rw [needsL_at ho] at hn'
        obtain ⟨ed, he, hb, rfl⟩ := mem_needs.1 hn'
        have h1 := hall ed he hb
        have h2 : ed.on < listed.size := by
          have := hel y.i hys ed.on (by rw [needsL_at ho]; exact hn')
          omega
        simpa [h2] using h1
      have hA : ∀ x ∈ A, apartA x.o y.o = true ∧ compat x.fp y.fp = true := fun x hx => by
        rcases G.pair x (hL x (by simp [hx])) y hy0 (hAlt x hx) with hb | hb
        · exfalso
          have := closeB_spec (fun n => listed.getD n true = true) (needsL ops) [] (needsL ops) (fun i hi => by simp at hi) (fun i hi' hD n hn' => hdn i (by simpa [needsL] using hi') hD n hn') (by simp) (fun i _ => by simp)
            (fun i hi' => hel i (by simpa [needsL] using hi')) y.i (by simpa [needsL] using hys) hready x.i hb
          have h0 := (hi x.i).2 ⟨x, by simp [hx], rfl⟩
          rw [h0] at this
          cases this
        · exact hb
      obtain ⟨⟨e1, H1⟩, ⟨hst, _⟩, hrest⟩ := front hcp A (e, H) hn hA hr
      obtain ⟨o', ho', hco⟩ := hopat y hy0
      rw [ho] at ho'
      cases ho'
      have hsnd := oper_sound hcf hco (nid := y.nid) (fun ha => ⟨hf y hy ha, Nat.le_of_lt (hn y hy ha)⟩) hs hd hst (Q := Q)
        (next := wpAny P .any ops Q fuel (listed.setIfInBounds y.i true)) (fun a' w' m' F' hs' hE' hd' hD => by
          have hmem : ∀ x, x ∈ A ++ B → x ∈ A ++ y :: B := fun x hx => by
            rcases List.mem_append.1 hx with h | h
            · exact List.mem_append_left _ h
            · exact List.mem_append_right _ (List.mem_cons_of_mem _ h)
          have hne : ∀ x ∈ A ++ B, x.i ≠ y.i := fun x hx => by
            rcases List.mem_append.1 hx with h | h
            · have := hAlt x h; omega
            · have := hBlt x h; omega
          refine ih (A ++ B) (listed.setIfInBounds y.i true) m' F' H1 w' e1 a' hs' hd' (hE.trans hE') ⟨fun id mb hm => ?_, Nat.le_trans hG.le hD.le⟩ hrest
            (fun x hx ha => Nat.lt_of_lt_of_le (hn x (hmem x hx) ha) hD.le) (fun x hx ha => ?_) (fun x hx => hL x (hmem x hx)) ?_ (fun j => ?_) (by simp [hsz]) (fun j hj hlj n hn' => ?_) (by simp at hlen ⊢; omega)
          · rcases hD.dom id mb hm with h | h | h
            · exact hG.dom id mb h
            · unfold alOf at h
              split at h
              · cases h; exact .inr (G.at_ y hy0).2
              · cases h
            · exact .inr (Nat.le_trans hG.le h)
          · cases hm : m' x.nid with
            | none => rfl
            | some mb =>
              exfalso
              rcases hD.dom _ _ hm with h | h | h
              · rw [hf x (hmem x hx) ha] at h
                cases h
              · unfold alOf at h
                split at h
                · rename_i hay
                  injection h with h
                  rcases Nat.lt_or_gt_of_ne (hne x hx) with h2 | h2
                  · have := G.nid x (hL x (hmem x hx)) y hy0 h2 ha
                    omega
                  · have := G.nid y hy0 x (hL x (hmem x hx)) h2 hay
                    omega
                · cases h
              · have := hn x (hmem x hx) ha
                have h' : H.next ≤ x.nid := h
                omega
          · rw [List.pairwise_append]
            exact ⟨hpA, (List.pairwise_cons.1 hpB).2, fun x hx z hz => hpAB x hx z (List.mem_cons_of_mem _ hz)⟩
          · have hyl : y.i < listed.size := by omega
            by_cases hj : j = y.i
            · subst hj
              constructor
              · intro h
                simp [hyl] at h
              · rintro ⟨x, hx, hxi⟩
                exact absurd hxi (hne x hx)
            · have h1 : (listed.setIfInBounds y.i true).getD j true = listed.getD j true := by
                simp only [Array.getD_eq_getD_getElem?]
                rw [Array.getElem?_setIfInBounds_ne (Ne.symm hj)]
              rw [h1, hi j]
              constructor
              · rintro ⟨x, hx, rfl⟩
                refine ⟨x, ?_, rfl⟩
                rcases List.mem_append.1 hx with h | h
                · exact List.mem_append_left _ h
                · rcases List.mem_cons.1 h with rfl | h
                  · exact absurd rfl hj
                  · exact List.mem_append_right _ h
              · rintro ⟨x, hx, rfl⟩
                exact ⟨x, hmem x hx, rfl⟩
          · have mono : ∀ q, listed.getD q true = true → (listed.setIfInBounds y.i true).getD q true = true := fun q hq => by
              by_cases hqy : q = y.i
              · subst hqy
                have hyl : y.i < listed.size := by omega
                simp [hyl]
              · simp only [Array.getD_eq_getD_getElem?] at hq ⊢
                rw [Array.getElem?_setIfInBounds_ne (Ne.symm hqy)]
                exact hq
            by_cases hj' : j = y.i
            · subst hj'
              exact mono n (hready n hn')
            · refine mono n (hdn j hj ?_ n hn')
              simp only [Array.getD_eq_getD_getElem?] at hlj ⊢
              rwa [Array.getElem?_setIfInBounds_ne (Ne.symm hj')] at hlj)
      unfold wpOp
      simp only [ho]
      split
      · rename_i hw
        rw [if_pos hw] at hsnd
        exact .inl hsnd
      · rename_i hw
        rw [if_neg hw] at hsnd
        exact hsnd

theorem Inv.drew {m : Mp} {F : Fz} {H : Heap} {w : World} (h : Inv m F H w) (n : Nat) : Inv m F H { w with drawn := n } :=
  ⟨h.fz, h.lt, fun id mb B h1 h2 => by
    have := h.blk id mb B h1 h2
    cases B <;> exact this, h.inj⟩
theorem live_pad {H : Heap} {n id : Nat} (h : live (H.pad n) id) (hl : id < H.next) : live H id := by
  obtain ⟨B, h1, h2⟩ := h
  rw [Heap.get_pad _ _ _ hl] at h1
  exact ⟨B, h1, h2⟩
theorem Inv.pad {m : Mp} {F : Fz} {H : Heap} {w : World} (h : Inv m F H w) (n : Nat) : Inv m F (H.pad n) w :=
  ⟨h.fz, fun id mb hm => by
    have := h.lt id mb hm
    rw [Heap.next_pad]
    omega, fun id mb B hm hB => by
    rw [Heap.get_pad _ _ _ (h.lt id mb hm).1] at hB
    exact h.blk id mb B hm hB, fun i j mi mj hi hj li lj e => h.inj i j mi mj hi hj (live_pad li (h.lt _ _ hi).1) (live_pad lj (h.lt _ _ hj).1) e⟩

theorem drawn_sound {P : Program} (hP : P.follows .mixedOrders = true) {cf : CF} {pv : AV → List AV → Bool} (hcf : CfOk P cf) (hcp : CfPure cf pv) {ops : Array Oper} {os : List AOper} (hc : ops.toList.mapM (compOper P ops) = some os)
    {prs : List (Nat × Nat)} (hprs : prsOf ops os = some prs) {m : Mp} {F : Fz} {H H' : Heap} {w : World} {e e' : Env} {a : Act} (hs : Sit m F H w e a) (hd : a.defers = [])
    (h : drawn cf pv os prs e H = some (e', H')) (id : Nat) {Q : Exit → Act → World → Prop}
    (hq : ∀ a' w' m' F', Sit m' F' H' w' e' a' → Ext m F w m' F' w' → a'.defers = [] → Grew H.next m m' H' → Q .normal a' w') : (Code.region id ops true).wp P Q a w := by
  simp only [drawn, Option.bind_eq_some_iff] at h
  obtain ⟨⟨fs, e2, H2⟩, hrun, h⟩ := h
  split at h
  rotate_left
  · cases h
  rename_i hall
  simp only [Option.some.injEq, Prod.mk.injEq] at h
  obtain ⟨rfl, rfl⟩ := h
  unfold prsOf at hprs
  split at hprs
  rotate_left
  · cases hprs
  rename_i hel
  obtain ⟨hR, hfl⟩ := runs_RunL os 0 H.next e e2 (H.pad (nAls os)) H2 fs hrun
  obtain ⟨hl, hget⟩ := mapM_get hc
  have hlen : os.length = ops.size := by rw [hl]; simp
  rw [List.all_eq_true] at hall
  -- the footprints of two operations, once more
  have hfp : ∀ x ∈ itemsOf 0 H.next os fs, ∃ e0, x.fp = fpO pv x.nid e0 x.o := by
    have key : ∀ (L : List It) (s s' : Env × Heap), RunL cf pv L s s' → ∀ x ∈ L, ∃ e0, x.fp = fpO pv x.nid e0 x.o := by
      intro L
      induction L with
      | nil => intro s s' _ x hx; cases hx
      | cons y L ih =>
        intro s s' hr x hx
        obtain ⟨s1, ⟨_, hy⟩, hr⟩ := hr
        rcases List.mem_cons.1 hx with rfl | hx
        · exact ⟨s.1, hy.symm⟩
        · exact ih s1 s' hr x hx
    exact key _ _ _ hR
  have G : Full ops os (itemsOf 0 H.next os fs) H.next := by
    refine ⟨fun x hx => ?_, fun x hx y hy hlt => ?_, fun x hx y hy hlt ha => items_nid _ _ _ _ x y hx hy hlt ha, hel⟩
    · obtain ⟨_, b, _, d, _⟩ := items_spec _ _ _ _ x hx
      exact ⟨by simpa using b, d⟩
    · obtain ⟨_, bx, cx, _, _⟩ := items_spec _ _ _ _ x hx
      obtain ⟨_, by_, cy, _, _⟩ := items_spec _ _ _ _ y hy
      have := pairsOf_spec os 0 prs hprs y.i x.i x.o y.o (by simpa using by_) (by simpa using bx) (by omega)
      rw [Nat.zero_add] at this
      refine this.imp_right fun ⟨h1, h2⟩ => ⟨h1, ?_⟩
      by_cases hcl : clash (clsA x.o.op) (clsA y.o.op) = true
      · have := hall _ (h2 hcl)
        rw [cx, cy]
        simpa using this
      · obtain ⟨ex, hx1⟩ := hfp x hx
        obtain ⟨ey, hy1⟩ := hfp y hy
        rw [hx1, hy1]
        refine clash_compat (fun ha _ => ?_) (by simpa using hcl)
        have := items_nid _ _ _ _ x y hx hy hlt ha
        omega
  apply wp_region_any hP
  have hidx := items_idx os 0 H.next fs
  refine game hcf hcp hc G (m0 := m) (F0 := F) (w0 := w) hq ops.size (itemsOf 0 H.next os fs) (Array.replicate ops.size false) m F (H.pad (nAls os)) _ e a ⟨(hs.inv.pad _).drew _, hs.env⟩ hd
    ⟨MLe.refl m, FLe.refl F, Nat.le_refl _, rfl, rfl, rfl, fun _ _ _ => rfl, fun _ _ h => .inl h, fun _ _ _ h => .inl h⟩ ⟨fun _ _ h => .inl h, by rw [Heap.next_pad]; omega⟩ hR
    (fun x hx ha => by rw [Heap.next_pad]; exact (items_spec _ _ _ _ x hx).2.2.2.2 ha) (fun x hx ha => ?_) (fun x hx => hx) ?_ (fun i => ?_) (by simp) (fun i hi hli => ?_) ?_
  · have := (items_spec _ _ _ _ x hx).2.2.2.1
    cases hm : m x.nid with
    | none => rfl
    | some mb =>
      have := (hs.inv.lt _ _ hm).1
      omega
  · have : ((itemsOf 0 H.next os fs).map (·.i)).Pairwise (· < ·) := by
      rw [hidx]
      exact List.pairwise_lt_range'
    rw [List.pairwise_map] at this
    exact this
  · have : i ∈ (itemsOf 0 H.next os fs).map (·.i) ↔ i < ops.size := by
      rw [hidx, List.mem_range', ← hlen]
      constructor
      · rintro ⟨k, hk, rfl⟩; omega
      · intro hi; exact ⟨i, hi, by omega⟩
    rw [List.mem_map] at this
    rw [this]
    constructor
    · intro h
      apply Classical.byContradiction
      intro hn
      simp [hn] at h
    · intro h
      simp [h]
  · simp [hi] at hli
  · have : (itemsOf 0 H.next os fs).length = os.length := by
      have := congrArg List.length hidx
      simpa using this
    omega
end Go.VI
