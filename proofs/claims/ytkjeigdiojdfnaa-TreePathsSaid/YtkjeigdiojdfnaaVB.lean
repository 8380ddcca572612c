/- VI, part B: how abstract values, heaps and slots stand for the machine's. -/
import Derived.Test.YtkjeigdiojdfnaaVA
import Derived.Laws.World
set_option linter.unusedVariables false
set_option linter.unusedSimpArgs false
namespace Go.VI

abbrev Fz := Nat → Nat → Option Value
structure MB where
  cb : Nat
  base : Nat
  sz : Nat
  cn : Nat
abbrev Mp := Nat → Option MB

/-- A value without numbers: all that it leads to lies in frozen cells. -/
inductive VF (F : Fz) : AV → Value → Prop where
  | sc {v : Value} (h : isSc v = true) : VF F (.sc v) v
  | agg {cs : List AV} {vs : Array Value} (hl : vs.size = cs.length) (h1 : ∀ (i : Nat) (c : AV), cs[i]? = some c → c.one = true)
      (h : ∀ i c, cs[i]? = some c → VF F c (vs.getD i undef)) : VF F (.agg cs) (.agg vs)
  | tup {cs : List AV} {vs : Array Value} (hl : vs.size = cs.length) (h : ∀ i c, cs[i]? = some c → VF F c (vs.getD i undef)) : VF F (.tup cs) (.tuple vs)
  | lst {rows : List (List AV)} {A : Option Addr} {cap sz b o : Nat} (cv : Nat → Nat → Value) (hcap : rows.length ≤ cap) (hA : rows ≠ [] → A = some ⟨b, o, none⟩)
      (hr : ∀ (i : Nat) (r : List AV), rows[i]? = some r → r.length = sz) (h1 : ∀ (i : Nat) (r : List AV) (j : Nat) (c : AV), rows[i]? = some r → r[j]? = some c → c.one = true)
      (hc : ∀ (i : Nat) (r : List AV) (j : Nat) (c : AV), rows[i]? = some r → r[j]? = some c → F b (o + i * sz + j) = some (cv i j))
      (h : ∀ (i : Nat) (r : List AV) (j : Nat) (c : AV), rows[i]? = some r → r[j]? = some c → VF F c (cv i j)) : VF F (.lst rows) (.slice A rows.length cap)
  | pim {rows : List (List AV)} {i0 off sz b o : Nat} (cv : Nat → Nat → Value)
      (hr : ∀ (i : Nat) (r : List AV), rows[i]? = some r → r.length = sz) (h1 : ∀ (i : Nat) (r : List AV) (j : Nat) (c : AV), rows[i]? = some r → r[j]? = some c → c.one = true)
      (hc : ∀ (i : Nat) (r : List AV) (j : Nat) (c : AV), rows[i]? = some r → r[j]? = some c → F b (o + i * sz + j) = some (cv i j))
      (h : ∀ (i : Nat) (r : List AV) (j : Nat) (c : AV), rows[i]? = some r → r[j]? = some c → VF F c (cv i j)) : VF F (.pim rows i0 off) (.pointer (some ⟨b, o + i0 * sz + off, none⟩))
  | fn {f : Fn} {first caps : List AV} {vf vc : Array Value} (hf : vf.size = first.length) (hc : vc.size = caps.length)
      (h1 : ∀ i c, first[i]? = some c → VF F c (vf.getD i undef)) (h2 : ∀ i c, caps[i]? = some c → VF F c (vc.getD i undef)) : VF F (.fn f first caps) (.func f vf vc)

inductive VR (m : Mp) (F : Fz) : AV → Value → Prop where
  | fz {a : AV} {v : Value} (h : VF F a v) : VR m F a v
  | bad (v : Value) : VR m F .bad v
  | agg {cs : List AV} {vs : Array Value} (hl : vs.size = cs.length) (h1 : ∀ (i : Nat) (c : AV), cs[i]? = some c → c.one = true)
      (h : ∀ i c, cs[i]? = some c → VR m F c (vs.getD i undef)) : VR m F (.agg cs) (.agg vs)
  | tup {cs : List AV} {vs : Array Value} (hl : vs.size = cs.length) (h : ∀ i c, cs[i]? = some c → VR m F c (vs.getD i undef)) : VR m F (.tup cs) (.tuple vs)
  | sl {id off len cap : Nat} {mb : MB} (hm : m id = some mb) (h : off + cap ≤ mb.cn) (hl : len ≤ cap) :
      VR m F (.sl id off len) (.slice (some ⟨mb.cb, mb.base + off * mb.sz, none⟩) len cap)
  | ptr {id i off : Nat} {mb : MB} (hm : m id = some mb) : VR m F (.ptr id i off) (.pointer (some ⟨mb.cb, mb.base + i * mb.sz + off, none⟩))
  | fn {f : Fn} {first caps : List AV} {vf vc : Array Value} (hf : vf.size = first.length) (hc : vc.size = caps.length)
      (h1 : ∀ i c, first[i]? = some c → VR m F c (vf.getD i undef)) (h2 : ∀ i c, caps[i]? = some c → VR m F c (vc.getD i undef)) : VR m F (.fn f first caps) (.func f vf vc)
  | mp {id : Nat} {mb : MB} (hm : m id = some mb) : VR m F (.mp id) (.map (some mb.cb))

def FLe (F F' : Fz) : Prop := ∀ b o v, F b o = some v → F' b o = some v
def MLe (m m' : Mp) : Prop := ∀ id mb, m id = some mb → m' id = some mb
theorem FLe.refl (F : Fz) : FLe F F := fun _ _ _ h => h
theorem FLe.trans {F F' F'' : Fz} (h : FLe F F') (h' : FLe F' F'') : FLe F F'' := fun b o v x => h' b o v (h b o v x)
theorem MLe.refl (m : Mp) : MLe m m := fun _ _ h => h
theorem MLe.trans {m m' m'' : Mp} (h : MLe m m') (h' : MLe m' m'') : MLe m m'' := fun b o x => h' b o (h b o x)

theorem VF.mono {F F' : Fz} (hF : FLe F F') {a : AV} {v : Value} (h : VF F a v) : VF F' a v := by
  induction h with
  | sc h => exact .sc h
  | agg hl h1 _ ih => exact .agg hl h1 ih
  | tup hl _ ih => exact .tup hl ih
  | lst cv hcap hA hr h1 hc _ ih => exact .lst cv hcap hA hr h1 (fun i r j c x y => hF _ _ _ (hc i r j c x y)) ih
  | pim cv hr h1 hc _ ih => exact .pim cv hr h1 (fun i r j c x y => hF _ _ _ (hc i r j c x y)) ih
  | fn hf hc _ _ i1 i2 => exact .fn hf hc i1 i2
theorem VR.mono {m m' : Mp} {F F' : Fz} (hm : MLe m m') (hF : FLe F F') {a : AV} {v : Value} (h : VR m F a v) : VR m' F' a v := by
  induction h with
  | fz h => exact .fz (h.mono hF)
  | bad v => exact .bad v
  | agg hl h1 _ ih => exact .agg hl h1 ih
  | tup hl _ ih => exact .tup hl ih
  | sl h1 h2 h3 => exact .sl (hm _ _ h1) h2 h3
  | ptr h1 => exact .ptr (hm _ _ h1)
  | fn hf hc _ _ i1 i2 => exact .fn hf hc i1 i2
  | mp h1 => exact .mp (hm _ _ h1)

/-- A block of cells, none of them read-only. -/
def CB (w : World) (b : Nat) (vs : Array Value) : Prop := ∃ t fr, w.heap[b]? = some (.cells vs t fr) ∧ (fr = (0, 0) ∨ vs.size ≤ fr.1)
theorem CB.lt {w : World} {b : Nat} {vs : Array Value} (h : CB w b vs) : b < w.heap.size := by
  obtain ⟨t, fr, h, _⟩ := h
  exact (Array.getElem?_eq_some_iff.1 h).1
theorem CB.cell {w : World} {b : Nat} {vs : Array Value} (h : CB w b vs) (o : Nat) (ho : o < vs.size) : w.cell? ⟨b, o, none⟩ = some (vs.getD o undef) := by
  obtain ⟨t, fr, h, _⟩ := h
  simp [World.cell?, h, ho]
theorem CB.frozen {w : World} {b : Nat} {vs : Array Value} (h : CB w b vs) (o : Nat) (ho : o < vs.size) : w.frozen? ⟨b, o, none⟩ = false := by
  obtain ⟨t, fr, h, hf⟩ := h
  simp only [World.frozen?, h]
  simp only [Bool.and_eq_false_iff, decide_eq_false_iff_not]
  rcases hf with rfl | hf
  · simp
  · omega
theorem CB.of_heap {w w' : World} {b : Nat} {vs : Array Value} (h : CB w b vs) (he : w'.heap[b]? = w.heap[b]?) : CB w' b vs := by
  obtain ⟨t, fr, h, hf⟩ := h
  exact ⟨t, fr, he.trans h, hf⟩
theorem CB.fun_ {w : World} {b : Nat} {vs vs' : Array Value} (h : CB w b vs) (h' : CB w b vs') : vs = vs' := by
  obtain ⟨t, fr, h, _⟩ := h
  obtain ⟨t', fr', h', _⟩ := h'
  rw [h] at h'
  injection h' with h'
  injection h'

def BlkR (m : Mp) (F : Fz) (w : World) (mb : MB) : Blk → Prop
  | .dead => True
  | .box fz cs => ∃ vs, CB w mb.cb vs ∧ mb.base + cs.length ≤ vs.size ∧ (∀ (j : Nat) (c : AV), cs[j]? = some c → c.one = true ∧ VR m F c (vs.getD (mb.base + j) undef)) ∧
      (fz = false → ∀ o, F mb.cb o = none) ∧ (fz = true → ∀ j c, cs[j]? = some c → VF F c (vs.getD (mb.base + j) undef) ∧ F mb.cb (mb.base + j) = some (vs.getD (mb.base + j) undef))
  | .row fz sz rs => ∃ vs, CB w mb.cb vs ∧ mb.sz = sz ∧ rs.length ≤ mb.cn ∧ mb.base + mb.cn * sz ≤ vs.size ∧ (∀ (i : Nat) (r : List AV), rs[i]? = some r → r.length = sz) ∧
      (∀ (i : Nat) (r : List AV) (j : Nat) (c : AV), rs[i]? = some r → r[j]? = some c → c.one = true ∧ VF F c (vs.getD (mb.base + i * sz + j) undef)) ∧
      (fz = false → ∀ o, F mb.cb o = none) ∧ (fz = true → ∀ (i : Nat) (r : List AV) (j : Nat) (c : AV), rs[i]? = some r → r[j]? = some c → F mb.cb (mb.base + i * sz + j) = some (vs.getD (mb.base + i * sz + j) undef))
  | .mpb kd es => ∃ ens clock, w.heap[mb.cb]? = some (.map ens clock) ∧ ens.size = es.length ∧ (∀ (i : Nat) (k v : AV), es[i]? = some (k, v) → ∃ en : MapEntry, ens[i]? = some en ∧ VR m F k en.key ∧ keyOk kd k = true ∧ VR m F v en.val)

def live (H : Heap) (id : Nat) : Prop := ∃ B, H.get id = some B ∧ B ≠ .dead

structure Inv (m : Mp) (F : Fz) (H : Heap) (w : World) : Prop where
  fz : ∀ b o v, F b o = some v → w.cell? ⟨b, o, none⟩ = some v
  lt : ∀ id mb, m id = some mb → id < H.next ∧ mb.cb < w.heap.size
  blk : ∀ id mb B, m id = some mb → H.get id = some B → BlkR m F w mb B
  inj : ∀ id id' mb mb', m id = some mb → m id' = some mb' → live H id → live H id' → mb.cb = mb'.cb → id = id'

structure Ext (m : Mp) (F : Fz) (w : World) (m' : Mp) (F' : Fz) (w' : World) : Prop where
  mm : MLe m m'
  ff : FLe F F'
  sz : w.heap.size ≤ w'.heap.size
  tape : w'.tape = w.tape
  os : w'.os = w.os
  out : w'.output = w.output
  blk : ∀ b, b < w.heap.size → (∀ id mb, m id = some mb → mb.cb ≠ b) → w'.heap[b]? = w.heap[b]?
  mn : ∀ id mb, m' id = some mb → m id = some mb ∨ w.heap.size ≤ mb.cb ∨ ∃ id0 mb0, m id0 = some mb0 ∧ mb0.cb = mb.cb
  fn : ∀ b o v, F' b o = some v → F b o = some v ∨ w.heap.size ≤ b ∨ ∃ id0 mb0, m id0 = some mb0 ∧ mb0.cb = b

theorem Ext.refl (m : Mp) (F : Fz) (w : World) : Ext m F w m F w :=
  ⟨MLe.refl m, FLe.refl F, Nat.le_refl _, rfl, rfl, rfl, fun _ _ _ => rfl, fun _ _ h => .inl h, fun _ _ _ h => .inl h⟩
theorem Ext.trans {m m' m'' : Mp} {F F' F'' : Fz} {w w' w'' : World} (h : Ext m F w m' F' w') (h' : Ext m' F' w' m'' F'' w'') : Ext m F w m'' F'' w'' where
  mm := h.mm.trans h'.mm
  ff := h.ff.trans h'.ff
  sz := Nat.le_trans h.sz h'.sz
  tape := h'.tape.trans h.tape
  os := h'.os.trans h.os
  out := h'.out.trans h.out
  blk := fun b hb hn => by
    refine (h'.blk b (Nat.lt_of_lt_of_le hb h.sz) (fun id mb hm e => ?_)).trans (h.blk b hb hn)
    subst e
    rcases h.mn id mb hm with h1 | h1 | ⟨i0, m0, h1, h2⟩
    · exact hn id mb h1 rfl
    · omega
    · exact hn i0 m0 h1 h2
  mn := fun id mb hm => by
    rcases h'.mn id mb hm with h1 | h1 | ⟨i0, m0, h1, h2⟩
    · exact h.mn id mb h1
    · exact .inr (.inl (Nat.le_trans h.sz h1))
    · rcases h.mn i0 m0 h1 with h3 | h3 | ⟨i1, m1, h3, h4⟩
      · exact .inr (.inr ⟨i0, m0, h3, h2⟩)
      · exact .inr (.inl (by omega))
      · exact .inr (.inr ⟨i1, m1, h3, h4.trans h2⟩)
  fn := fun b o v hf => by
    rcases h'.fn b o v hf with h1 | h1 | ⟨i0, m0, h1, h2⟩
    · exact h.fn b o v h1
    · exact .inr (.inl (Nat.le_trans h.sz h1))
    · rcases h.mn i0 m0 h1 with h3 | h3 | ⟨i1, m1, h3, h4⟩
      · exact .inr (.inr ⟨i0, m0, h3, h2⟩)
      · exact .inr (.inl (by omega))
      · exact .inr (.inr ⟨i1, m1, h3, h4.trans h2⟩)

/-- Slots. -/
structure EnvR (m : Mp) (F : Fz) (e : Env) (tmps : Array Value) : Prop where
  len : e.length ≤ tmps.size
  val : ∀ t, VR m F (e.getD t .bad) (tmps.getD t undef)
theorem EnvR.mono {m m' : Mp} {F F' : Fz} {e : Env} {tmps : Array Value} (h : EnvR m F e tmps) (hm : MLe m m') (hF : FLe F F') : EnvR m' F' e tmps :=
  ⟨h.len, fun t => (h.val t).mono hm hF⟩
theorem EnvR.put {m : Mp} {F : Fz} {e : Env} {a : Act} {v : AV} {u : Value} (h : EnvR m F e a.tmps) (d : Option Nat) (hv : VR m F v u) : EnvR m F (putA e d v) (a.put d u).tmps := by
  cases d with
  | none => exact h
  | some t =>
    refine ⟨by simp [putA, Act.put]; exact h.len, fun s => ?_⟩
    simp only [putA, Act.put]
    by_cases hs : s = t
    · subst hs
      by_cases hl : s < e.length
      · have h2 : s < a.tmps.size := Nat.lt_of_lt_of_le hl h.len
        rw [List.getD_eq_getElem?_getD, List.getElem?_set_self hl]
        simp [h2]
        exact hv
      · rw [List.getD_eq_getElem?_getD, List.getElem?_eq_none (by simp; omega)]
        exact .bad _
    · have h1 : (e.set t v).getD s .bad = e.getD s .bad := by
        rw [List.getD_eq_getElem?_getD, List.getD_eq_getElem?_getD, List.getElem?_set_ne (Ne.symm hs)]
      have h2 : (a.tmps.setIfInBounds t u).getD s undef = a.tmps.getD s undef := by
        simp only [Array.getD_eq_getD_getElem?]
        rw [Array.getElem?_setIfInBounds_ne (Ne.symm hs)]
      rw [h1, h2]
      exact h.val s

theorem vf_ofCellC (F : Fz) (m : Mp) (v : Value) : VR m F (ofCellC v) v := by
  unfold ofCellC
  split
  · exact .fz (.sc ‹_›)
  · exact .bad _
theorem vr_ofC (F : Fz) (m : Mp) (v : Value) : VR m F (ofC v) v := by
  unfold ofC
  split
  · rename_i cs
    split
    · rename_i hall
      rw [List.all_eq_true] at hall
      refine .fz (.agg (by simp) (fun i c hc => ?_) (fun i c hc => ?_))
      · rw [List.getElem?_map, Option.map_eq_some_iff] at hc
        obtain ⟨x, hx, rfl⟩ := hc
        rfl
      · rw [List.getElem?_map, Option.map_eq_some_iff] at hc
        obtain ⟨x, hx, rfl⟩ := hc
        have hx' : cs[i]? = some x := by simpa using hx
        have : cs.getD i undef = x := by simp [Array.getD_eq_getD_getElem?, hx']
        rw [this]
        exact .sc (hall x (List.mem_of_getElem? hx))
    · exact .bad _
  · exact vf_ofCellC F m v
end Go.VI
