/- VI, part D: memory lemmas: blocks that stay, new blocks, stores, loads. -/
import Derived.Test.YtkjeigdiojdfnaaVC
import Derived.Laws.Cells
import Derived.Laws.AppendOwn
set_option linter.unusedVariables false
set_option linter.unusedSimpArgs false
namespace Go.VI

def mset (m : Mp) (id : Nat) (mb : MB) : Mp := fun j => if j = id then some mb else m j
theorem mset_self (m : Mp) (id : Nat) (mb : MB) : mset m id mb id = some mb := by simp [mset]
theorem mset_le {m : Mp} {id : Nat} (mb : MB) (h : m id = none) : MLe m (mset m id mb) := fun j x hj => by
  by_cases e : j = id
  · subst e
    rw [h] at hj
    cases hj
  · simp [mset, e, hj]
theorem mset_cases {m : Mp} {id j : Nat} {mb x : MB} (h : mset m id mb j = some x) : (j = id ∧ x = mb) ∨ (j ≠ id ∧ m j = some x) := by
  by_cases e : j = id
  · subst e
    simp [mset] at h
    exact .inl ⟨rfl, h.symm⟩
  · simp [mset, e] at h
    exact .inr ⟨e, h⟩
/-- A number that is free. -/
structure Free (m : Mp) (H : Heap) (nid : Nat) : Prop where
  no : m nid = none
  le : nid ≤ H.next
def Dom (al : Option Nat) (m m' : Mp) : Prop := ∀ id mb, m' id = some mb → m id = some mb ∨ al = some id
theorem Dom.refl (al : Option Nat) (m : Mp) : Dom al m m := fun _ _ h => .inl h
theorem Dom.mset (m : Mp) (id : Nat) (mb : MB) : Dom (some id) m (mset m id mb) := fun j x h => by
  rcases mset_cases h with ⟨rfl, _⟩ | ⟨_, h⟩
  · exact .inr rfl
  · exact .inl h
theorem Inv.fresh {m : Mp} {F : Fz} {H : Heap} {w : World} (h : Inv m F H w) : m H.next = none := by
  cases e : m H.next with
  | none => rfl
  | some mb => exact absurd (h.lt _ _ e).1 (Nat.lt_irrefl _)
theorem Inv.fz_lt {m : Mp} {F : Fz} {H : Heap} {w : World} (h : Inv m F H w) {b o : Nat} {v : Value} (hf : F b o = some v) : b < w.heap.size :=
  World.block_lt_of_cell? w _ (h.fz b o v hf)
theorem Inv.fz_new {m : Mp} {F : Fz} {H : Heap} {w : World} (h : Inv m F H w) {b : Nat} (hb : w.heap.size ≤ b) (o : Nat) : F b o = none := by
  cases e : F b o with
  | none => rfl
  | some v => exact absurd (h.fz_lt e) (by omega)

theorem cell_of_heap {w w' : World} {b : Nat} (h : w'.heap[b]? = w.heap[b]?) (o : Nat) : w'.cell? ⟨b, o, none⟩ = w.cell? ⟨b, o, none⟩ := by
  simp [World.cell?, h]

theorem BlkR.step {m m' : Mp} {F F' : Fz} {w w' : World} {mb : MB} {B : Blk} (h : BlkR m F w mb B) (hh : w'.heap[mb.cb]? = w.heap[mb.cb]?) (hm : MLe m m') (hF : FLe F F')
    (hn : ∀ o v, F' mb.cb o = some v → F mb.cb o = some v) : BlkR m' F' w' mb B := by
  cases B with
  | dead => trivial
  | box fz cs =>
    obtain ⟨vs, h1, h2, h3, h4, h5⟩ := h
    refine ⟨vs, h1.of_heap hh, h2, fun j c hc => ⟨(h3 j c hc).1, (h3 j c hc).2.mono hm hF⟩, fun hz o => ?_, fun hz j c hc => ⟨(h5 hz j c hc).1.mono hF, hF _ _ _ (h5 hz j c hc).2⟩⟩
    cases e : F' mb.cb o with
    | none => rfl
    | some v => have := hn o v e; rw [h4 hz o] at this; cases this
  | row fz sz rs =>
    obtain ⟨vs, h1, h2, h3, h4, h5, h6, h7, h8⟩ := h
    refine ⟨vs, h1.of_heap hh, h2, h3, h4, h5, fun i r j c hr hc => ⟨(h6 i r j c hr hc).1, (h6 i r j c hr hc).2.mono hF⟩, fun hz o => ?_, fun hz i r j c hr hc => hF _ _ _ (h8 hz i r j c hr hc)⟩
    cases e : F' mb.cb o with
    | none => rfl
    | some v => have := hn o v e; rw [h7 hz o] at this; cases this
  | mpb kd es =>
    obtain ⟨ens, ck, h1, h2, h3⟩ := h
    refine ⟨ens, ck, hh.trans h1, h2, fun i k v hi => ?_⟩
    obtain ⟨en, a1, a2, a3, a4⟩ := h3 i k v hi
    exact ⟨en, a1, a2.mono hm hF, a3, a4.mono hm hF⟩

theorem Inv.next {m m' : Mp} {F F' : Fz} {H H' : Heap} {w w' : World} (h : Inv m F H w) (hm : MLe m m') (hF : FLe F F')
    (hf : ∀ b o v, F' b o = some v → w'.cell? ⟨b, o, none⟩ = some v)
    (hl : ∀ id mb, m' id = some mb → id < H'.next ∧ mb.cb < w'.heap.size)
    (hb : ∀ id mb B, m' id = some mb → H'.get id = some B → (m id = some mb ∧ H.get id = some B ∧ w'.heap[mb.cb]? = w.heap[mb.cb]? ∧ ∀ o v, F' mb.cb o = some v → F mb.cb o = some v) ∨ BlkR m' F' w' mb B)
    (hi : ∀ id id' mb mb', m' id = some mb → m' id' = some mb' → live H' id → live H' id' → mb.cb = mb'.cb → id = id') : Inv m' F' H' w' :=
  ⟨hf, hl, fun id mb B h1 h2 => by
    rcases hb id mb B h1 h2 with ⟨a1, a2, a3, a4⟩ | a
    · exact (h.blk id mb B a1 a2).step a3 hm hF a4
    · exact a, hi⟩

theorem live_push {H : Heap} {b : Blk} {nid j : Nat} (hn : nid ≤ H.next) (h : live (H.put nid b) j) (hj : j ≠ nid) : live H j := by
  obtain ⟨B, h1, h2⟩ := h
  rw [Heap.get_put_ne b hn hj] at h1
  exact ⟨B, h1, h2⟩
theorem live_set {H : Heap} {b : Blk} {id j : Nat} (h : live (H.set id b) j) (hb : live H id ∨ b = .dead) : live H j := by
  obtain ⟨B, h1, h2⟩ := h
  by_cases e : j = id
  · subst e
    rcases hb with hb | rfl
    · exact hb
    · rw [Heap.get_set_self _ (by have := Heap.get_lt h1; simpa using this)] at h1
      cases h1
      exact absurd rfl h2
  · rw [Heap.get_set_ne b e] at h1
    exact ⟨B, h1, h2⟩
theorem live_of {H : Heap} {id : Nat} {B : Blk} (h : H.get id = some B) (hB : B ≠ .dead) : live H id := ⟨B, h, hB⟩

/-! ### a new block -/
theorem heap_alloc_ne {w : World} {o : Obj} {b : Nat} (h : b ≠ w.heap.size) : (w.alloc o).heap[b]? = w.heap[b]? := by
  simp only [World.alloc]
  rcases Nat.lt_or_ge b w.heap.size with h1 | h1
  · rw [Array.getElem?_push_lt h1, Array.getElem?_eq_getElem h1]
  · rw [Array.getElem?_eq_none (by simp; omega), Array.getElem?_eq_none h1]
theorem heap_alloc_at {w : World} {o : Obj} : (w.alloc o).heap[w.heap.size]? = some o := by simp only [World.alloc, Array.getElem?_push_size]

/-- Pushing a block: the world has one more. 'wd': the world, some orders having been drawn. -/
theorem Inv.free {m : Mp} {F : Fz} {H : Heap} {w : World} (h : Inv m F H w) : Free m H H.next := ⟨h.fresh, Nat.le_refl _⟩
theorem Inv.push {m : Mp} {F : Fz} {H : Heap} {w wd : World} {nid : Nat} (hn : Free m H nid) (h : Inv m F H w) (hd : wd.heap = w.heap) (ht : wd.tape = w.tape) (hos : wd.os = w.os) (hout : wd.output = w.output)
    (o : Obj) (B : Blk) (base sz cn : Nat)
    (hB : BlkR (mset m nid ⟨w.heap.size, base, sz, cn⟩) F (wd.alloc o) ⟨w.heap.size, base, sz, cn⟩ B) :
    Inv (mset m nid ⟨w.heap.size, base, sz, cn⟩) F (H.put nid B) (wd.alloc o) ∧ Ext m F w (mset m nid ⟨w.heap.size, base, sz, cn⟩) F (wd.alloc o) := by
  have hsz : wd.heap.size = w.heap.size := by rw [hd]
  have hold : ∀ b, b < w.heap.size → (wd.alloc o).heap[b]? = w.heap[b]? := fun b hb => by
    rw [heap_alloc_ne (by omega), hd]
  have hm := mset_le ⟨w.heap.size, base, sz, cn⟩ hn.no
  refine ⟨h.next hm (FLe.refl F) (fun b o' v hf => ?_) (fun id mb hid => ?_) (fun id mb B' hid hB' => ?_) (fun id id' mb mb' h1 h2 l1 l2 e => ?_), ?_⟩
  · rw [cell_of_heap (hold b (h.fz_lt hf))]
    exact h.fz b o' v hf
  · rcases mset_cases hid with ⟨rfl, rfl⟩ | ⟨hne, hid⟩
    · exact ⟨Heap.lt_next_put B hn.le, by simp [hsz]⟩
    · have := h.lt id mb hid
      have := Heap.next_put_le H B nid
      refine ⟨by omega, ?_⟩
      simp [hsz]
      omega
  · rcases mset_cases hid with ⟨rfl, rfl⟩ | ⟨hne, hid⟩
    · rw [Heap.get_put_self _ hn.le] at hB'
      cases hB'
      exact .inr hB
    · rw [Heap.get_put_ne B hn.le hne] at hB'
      exact .inl ⟨hid, hB', hold _ (h.lt id mb hid).2, fun _ _ hv => hv⟩
  · rcases mset_cases h1 with ⟨q1, q2⟩ | ⟨hne, g1⟩ <;> rcases mset_cases h2 with ⟨q3, q4⟩ | ⟨hne2, g2⟩
    · rw [q1, q3]
    · have := (h.lt _ _ g2).2
      rw [q2] at e
      simp at e
      omega
    · have := (h.lt _ _ g1).2
      rw [q4] at e
      simp at e
      omega
    · exact h.inj id id' mb mb' g1 g2 (live_push hn.le l1 hne) (live_push hn.le l2 hne2) e
  · exact ⟨hm, FLe.refl F, by simp [hsz], ht, hos, hout, fun b hb _ => hold b hb, fun id mb hid => by
      rcases mset_cases hid with ⟨rfl, rfl⟩ | ⟨hne, hid⟩
      · exact .inr (.inl (Nat.le_refl _))
      · exact .inl hid, fun _ _ _ hf => .inl hf⟩

/-! ### storing -/
theorem oneCell_of {m : Mp} {F : Fz} {c : AV} {v : Value} (h : VR m F c v) (h1 : c.one = true) : v.oneCell' = true := by
  cases h with
  | fz h => cases h with
    | sc h => cases v <;> simp_all [isSc, Value.oneCell']
    | agg => simp [AV.one] at h1
    | tup => simp [AV.one] at h1
    | _ => rfl
  | bad => simp [AV.one] at h1
  | agg => simp [AV.one] at h1
  | tup => simp [AV.one] at h1
  | _ => rfl

/-- w' is w, cells of block b written from o on. -/
structure Wrote (w w' : World) (b o : Nat) (us : List Value) (vs vs' : Array Value) : Prop where
  cb : CB w' b vs'
  size : vs'.size = vs.size
  at_ : ∀ j, j < us.length → vs'.getD (o + j) undef = us.getD j undef
  ne : ∀ k, k < o ∨ o + us.length ≤ k → vs'.getD k undef = vs.getD k undef
  heap : ∀ b', b' ≠ b → w'.heap[b']? = w.heap[b']?
  hs : w'.heap.size = w.heap.size
  tape : w'.tape = w.tape
  os : w'.os = w.os
  out : w'.output = w.output

theorem CB.setCell {w : World} {b o : Nat} {vs : Array Value} (h : CB w b vs) (v : Value) : CB (w.setCell ⟨b, o, none⟩ v) b (vs.setIfInBounds o v) := by
  obtain ⟨t, fr, h1, h2⟩ := h
  refine ⟨t, fr, ?_, by simpa using h2⟩
  simp [World.setCell, Array.getElem?_modify, h1]
theorem run_stores (P : Program) (b o : Nat) : ∀ (us : List Value) (i : Nat) (w : World) (vs : Array Value), CB w b vs → o + i + us.length ≤ vs.size → (∀ u ∈ us, u.oneCell' = true) →
    ∃ w' vs', (storeCells ⟨b, o, none⟩ us i).run P w = .ok () w' ∧ Wrote w w' b (o + i) us vs vs' := by
  intro us
  induction us with
  | nil => intro i w vs h _ _; exact ⟨w, vs, rfl, h, rfl, fun j hj => by simp at hj, fun _ _ => rfl, fun _ _ => rfl, rfl, rfl, rfl, rfl⟩
  | cons u us ih =>
    intro i w vs h hl h1
    simp only [List.length_cons] at hl
    have ha : (⟨b, o, none⟩ : Addr).add i = ⟨b, o + i, none⟩ := by unfold Addr.add; split <;> simp_all
    have hc := h.cell (o + i) (by omega)
    have hf := h.frozen (o + i) (by omega)
    have h' := h.setCell (o := o + i) u
    obtain ⟨w', vs', hr, hw⟩ := ih (i + 1) (w.setCell ⟨b, o + i, none⟩ u) _ h' (by simp; omega) (fun x hx => h1 x (List.mem_cons_of_mem _ hx))
    refine ⟨w', vs', ?_, hw.cb, by rw [hw.size]; simp, fun j hj => ?_, fun k hk => ?_, fun b' hb' => ?_, by rw [hw.hs]; simp, hw.tape, hw.os, hw.out⟩
    · simp only [storeCells, Sem.run_bind, ha, run_store P _ _ u _ (h1 u List.mem_cons_self), hc, hf]
      simpa using hr
    · cases j with
      | zero =>
        rw [hw.ne (o + i + 0) (by omega)]
        have : o + i < vs.size := by omega
        simp [this]
      | succ j =>
        have := hw.at_ j (by simpa using hj)
        rw [show o + i + (j + 1) = o + (i + 1) + j by omega, this]
        rfl
    · simp only [List.length_cons] at hk
      rw [hw.ne k (by omega)]
      simp only [Array.getD_eq_getD_getElem?]
      rw [Array.getElem?_setIfInBounds_ne (by omega)]
    · rw [hw.heap b' hb']
      simp only [World.setCell]
      rw [Array.getElem?_modify]
      simp [Ne.symm hb']

/-! ### loading -/
theorem addr_add (b o n : Nat) : (⟨b, o, none⟩ : Addr).add n = ⟨b, o + n, none⟩ := by unfold Addr.add; split <;> simp_all
end Go.VI
