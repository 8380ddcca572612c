/- VI, part G: each operation of the machine does what the resolved one says. -/
import Derived.Test.YtkjeigdiojdfnaaVE
import Derived.Laws.Small
set_option linter.unusedVariables false
set_option linter.unusedSimpArgs false
namespace Go.VI

def OpOk (P : Program) (co : Oper) (a : Act) (al : Option Nat) (m : Mp) (F : Fz) (w : World) (v : AV) (H' : Heap) : Prop :=
  ∃ nx u m' F' w', (execOp a.eval co).run P w = .ok nx w' ∧ (nx = .value u ∨ nx = .skip ∧ u = undef) ∧ VR m' F' v u ∧ Inv m' F' H' w' ∧ Ext m F w m' F' w' ∧ Dom al m m'

structure Sit (m : Mp) (F : Fz) (H : Heap) (w : World) (e : Env) (a : Act) : Prop where
  inv : Inv m F H w
  env : EnvR m F e a.tmps

theorem Sit.ev {m : Mp} {F : Fz} {H : Heap} {w : World} {e : Env} {a : Act} (h : Sit m F H w e a) (x : Operand) : VR m F (ev e x) (a.eval x) := by
  cases x with
  | tmp t => exact h.env.val t
  | const v => exact vr_ofC F m v
  | global g => exact .bad _
  | func f => exact .fz (.fn rfl rfl (by simp) (by simp))

/-- The world is as it was. -/
theorem OpOk.still {P : Program} {co : Oper} {a : Act} {al : Option Nat} {m : Mp} {F : Fz} {H : Heap} {w : World} {v : AV} {u : Value} (hI : Inv m F H w) (hr : (execOp a.eval co).run P w = .ok (.value u) w) (hv : VR m F v u) : OpOk P co a al m F w v H :=
  ⟨_, u, m, F, w, hr, .inl rfl, hv, hI, Ext.refl m F w, Dom.refl al m⟩

theorem toB_some {m : Mp} {F : Fz} {x : AV} {v : Value} {t : Bool} (h : toB x = some t) (hv : VR m F x v) : v = .bool t := by
  unfold toB at h
  split at h
  · cases h
    exact (vr_sc hv).1
  · cases h
theorem toI_some {m : Mp} {F : Fz} {x : AV} {v : Value} {n : Int} (h : toI x = some n) (hv : VR m F x v) : ∃ k, v = .int k n := by
  unfold toI at h
  split at h
  · cases h
    exact ⟨_, (vr_sc hv).1⟩
  · cases h
theorem pureRun_some {α : Type} {s : Sem α} {x : α} (h : pureRun s = some x) (P : Program) (w : World) : s.run P w = .ok x w := by
  unfold pureRun at h
  split at h
  · cases h
    rfl
  · cases h
theorem ofScalar_some {v : Value} {a : AV} (h : ofScalar v = some a) : a = .sc v ∧ isSc v = true := by
  unfold ofScalar at h
  split at h
  · cases h
    exact ⟨rfl, by assumption⟩
  · cases h

/-- A value's cells. -/
theorem vr_cells {m : Mp} {F : Fz} {x : AV} {v : Value} (h : VR m F x v) (h1 : oneAll x.cells = true) :
    v.cells.size = x.cells.length ∧ ∀ (i : Nat) (c : AV), x.cells[i]? = some c → c.one = true ∧ VR m F c (v.cells.getD i undef) := by
  cases x with
  | agg cs =>
    obtain ⟨vs, rfl, hs, ho, hv⟩ := vr_agg h
    exact ⟨hs, fun i c hc => ⟨ho i c hc, hv i c hc⟩⟩
  | bad => simp [AV.cells, oneAll, AV.one] at h1
  | tup vs => simp [AV.cells, oneAll, AV.one] at h1
  | _ =>
    have ho := oneCell_of h rfl
    have : v.cells = #[v] := by cases v <;> simp_all [Value.cells, Value.oneCell']
    rw [this]
    refine ⟨rfl, fun i c hc => ?_⟩
    cases i with
    | zero => simp [AV.cells] at hc; subst hc; exact ⟨rfl, by simpa using h⟩
    | succ i => simp [AV.cells] at hc

theorem infoA_some {P : Program} {t : TypeId} {i : Nat × Nat × List AV} (h : infoA P t = some i) :
    ∃ ti z, P.info? t = some ti ∧ ti.zero = some z ∧ i = (ti.size, ti.bytes, z.cells.toList.map .sc) ∧ (∀ x ∈ z.cells.toList, isSc x = true) ∧ z.cells.size = ti.size ∧ 0 < ti.size ∧ 0 < ti.bytes := by
  simp only [infoA, Option.bind_eq_some_iff] at h
  obtain ⟨ti, h1, z, h2, h⟩ := h
  split at h
  · rename_i hc
    cases h
    exact ⟨ti, z, h1, h2, rfl, List.all_eq_true.1 hc.1, hc.2.1, hc.2.2.1, hc.2.2.2⟩
  · cases h
theorem run_sizeOf' {P : Program} {t : TypeId} {ti : TypeInfo} (h : P.info? t = some ti) (w : World) : (sizeOf t).run P w = .ok ti.size w := by simp [sizeOf, typeInfo, h]
theorem run_zero' {P : Program} {t : TypeId} {ti : TypeInfo} {z : Value} (h : P.info? t = some ti) (hz : ti.zero = some z) (w : World) : (zeroValue t).run P w = .ok z w := by simp [zeroValue, typeInfo, h, hz]
theorem run_under' {P : Program} {t : TypeId} {d : TypeDesc} (h : P.underlying t = some d) (w : World) : (underlying t).run P w = .ok d w := by simp [underlying, h]
theorem aggB_some {P : Program} {t : TypeId} {g : Bool} (h : aggB P t = some g) (w : World) : (isAgg t).run P w = .ok g w := by
  unfold aggB at h
  split at h
  · rename_i d hd; cases h; simp [isAgg, run_under' hd]
  · rename_i d d' hd; cases h; simp [isAgg, run_under' hd]
  · rename_i d h1 h2 hd
    cases h
    simp only [isAgg, Sem.run_bind, run_under' hd, Result.andThen_ok]
    rfl
  · cases h
theorem elemA_some {P : Program} {t el : TypeId} (h : elemA P t = some el) : P.underlying t = some (.slice el) := by
  unfold elemA at h
  split at h
  · rename_i e hd; cases h; exact hd
  · cases h
theorem fieldsA_some {P : Program} {t : TypeId} {fs : Array Field} (h : fieldsA P t = some fs) : P.underlying t = some (.struct fs) := by
  unfold fieldsA at h
  split at h
  · rename_i e hd; cases h; exact hd
  · cases h

/-! ### a new box -/
theorem run_newVar (P : Program) (t : TypeId) (v : Value) (w : World) : (newVar t v).run P w = .ok ⟨w.heap.size, 0, none⟩ (w.alloc (.cells v.cells t)) := by
  simp [newVar, newRow]
theorem cb_alloc (w : World) (vs : Array Value) (t : TypeId) : CB (w.alloc (.cells vs t)) w.heap.size vs :=
  ⟨t, (0, 0), heap_alloc_at, .inl rfl⟩
theorem getD_of {vs : Array Value} {i : Nat} {v : Value} (h : vs[i]? = some v) : vs.getD i undef = v := by simp [Array.getD_eq_getD_getElem?, h]

theorem newBox {m : Mp} {F : Fz} {H : Heap} {w : World} {nid : Nat} (hn : Free m H nid) (hI : Inv m F H w) (cs : List AV) (vs : Array Value) (t : TypeId) (hl : vs.size = cs.length)
    (hc : ∀ (j : Nat) (c : AV), cs[j]? = some c → c.one = true ∧ VR m F c (vs.getD j undef)) :
    ∃ m', VR m' F (.ptr nid 0 0) (.pointer (some ⟨w.heap.size, 0, none⟩)) ∧ Inv m' F (H.put nid (.box false cs)) (w.alloc (.cells vs t)) ∧ Ext m F w m' F (w.alloc (.cells vs t)) ∧ Dom (some nid) m m' := by
  have hm := mset_le ⟨w.heap.size, 0, vs.size, 1⟩ hn.no
  obtain ⟨h1, h2⟩ := Inv.push hn hI (wd := w) rfl rfl rfl rfl (.cells vs t) (.box false cs) 0 vs.size 1
    ⟨vs, cb_alloc w vs t, by simp [hl], fun j c hj => ⟨(hc j c hj).1, by simpa using (hc j c hj).2.mono hm (FLe.refl F)⟩, fun _ o => hI.fz_new (Nat.le_refl _) o, by simp⟩
  refine ⟨_, ?_, h1, h2, Dom.mset _ _ _⟩
  have : VR (mset m nid ⟨w.heap.size, 0, vs.size, 1⟩) F (.ptr nid 0 0) (.pointer (some ⟨w.heap.size, 0 + 0 * vs.size + 0, none⟩)) := .ptr (mset_self _ _ _)
  simpa using this

theorem sim_alloc {P : Program} {m : Mp} {F : Fz} {H : Heap} {w : World} {e : Env} {a : Act} {nid : Nat} (hn : Free m H nid) (hs : Sit m F H w e a) {co : Oper} {t : TypeId} (ho : co.op = .alloc t) {i : Nat × Nat × List AV} (hi : infoA P t = some i) :
    OpOk P co a (some nid) m F w (.ptr nid 0 0) (H.put nid (.box false i.2.2)) := by
  obtain ⟨ti, z, h1, h2, rfl, h4, h5, _⟩ := infoA_some hi
  obtain ⟨m', a1, a2, a3, a4⟩ := newBox hn hs.inv (z.cells.toList.map .sc) z.cells t (by simp) (fun j c hj => by
    rw [List.getElem?_map, Option.map_eq_some_iff] at hj
    obtain ⟨x, hx, rfl⟩ := hj
    rw [getD_of (by simpa using hx)]
    exact ⟨rfl, .fz (.sc (h4 x (List.mem_of_getElem? hx)))⟩)
  refine ⟨_, _, m', F, _, ?_, .inl rfl, a1, a2, a3, a4⟩
  simp only [execOp, ho, Instr.alloc, Sem.run_bind, run_zero' h1 h2, Result.andThen_ok, run_newVar, Sem.run_pure]

theorem sim_box {P : Program} {m : Mp} {F : Fz} {H : Heap} {w : World} {e : Env} {a : Act} {nid : Nat} (hn : Free m H nid) (hs : Sit m F H w e a) {co : Oper} {t : TypeId} {x : Operand} (ho : co.op = .box t x)
    (h1 : oneAll (ev e x).cells = true) : OpOk P co a (some nid) m F w (.ptr nid 0 0) (H.put nid (.box false (ev e x).cells)) := by
  obtain ⟨hl, hc⟩ := vr_cells (hs.ev x) h1
  obtain ⟨m', a1, a2, a3, a4⟩ := newBox hn hs.inv (ev e x).cells (a.eval x).cells t hl hc
  refine ⟨_, _, m', F, _, ?_, .inl rfl, a1, a2, a3, a4⟩
  simp only [execOp, ho, Instr.box, Sem.run_bind, run_newVar, Result.andThen_ok, Sem.run_pure]

/-! ### loads -/
theorem cellsAt_sound {m : Mp} {F : Fz} {H : Heap} {w : World} (hI : Inv m F H w) {p : AV} {v : Value} (hv : VR m F p v) {n : Nat} {cs : List AV} (h : cellsAt H p n = some cs) :
    ∃ b o, v = .pointer (some ⟨b, o, none⟩) ∧ cs.length = n ∧ ∀ (j : Nat) (c : AV), cs[j]? = some c → c.one = true ∧ ∃ u, w.cell? ⟨b, o + j, none⟩ = some u ∧ VR m F c u := by
  cases p with
  | ptr id i off =>
    obtain ⟨mb, hm, rfl⟩ := vr_ptr hv
    simp only [cellsAt] at h
    refine ⟨_, _, rfl, ?_⟩
    split at h
    · rename_i fz cs0 hg
      obtain ⟨vs, hcb, hfit, hcs, _⟩ := hI.blk id mb _ hm hg
      split at h
      · rename_i hh
        cases h
        obtain ⟨rfl, hle⟩ := hh
        refine ⟨by simp; omega, fun j c hj => ?_⟩
        obtain ⟨hj, hjn⟩ := getElem_drop_take hj
        obtain ⟨h1, h2⟩ := hcs _ c hj
        have hlt := (List.getElem?_eq_some_iff.1 hj).1
        refine ⟨h1, _, ?_, h2⟩
        have := hcb.cell (mb.base + (off + j)) (by omega)
        simpa [Nat.add_assoc] using this
      · cases h
    · rename_i fz sz rs hg
      obtain ⟨vs, hcb, hsz, hcn, hfit, hrl, hrc, _⟩ := hI.blk id mb _ hm hg
      subst hsz
      split at h
      · rename_i r hr
        split at h
        · rename_i hle
          cases h
          refine ⟨by simp; omega, fun j c hj => ?_⟩
          obtain ⟨hj, hjn⟩ := getElem_drop_take hj
          obtain ⟨h1, h2⟩ := hrc i r _ c hr hj
          have hlt := (List.getElem?_eq_some_iff.1 hj).1
          have hilt := (List.getElem?_eq_some_iff.1 hr).1
          have hr2 := hrl i r hr
          refine ⟨h1, _, ?_, .fz h2⟩
          have hb : mb.base + i * mb.sz + (off + j) < vs.size := by
            have : (i + 1) * mb.sz ≤ mb.cn * mb.sz := Nat.mul_le_mul_right _ (by omega)
            rw [Nat.add_mul, Nat.one_mul] at this
            omega
          have := hcb.cell _ hb
          simpa [Nat.add_assoc] using this
        · cases h
      · cases h
    · cases h
  | pim rows i off =>
    have hv := vr_pim hv
    cases hv with
    | pim cv hr h1 hc hh =>
    simp only [cellsAt] at h
    refine ⟨_, _, rfl, ?_⟩
    split at h
    · rename_i r hr'
      split at h
      · rename_i hle
        cases h
        refine ⟨by simp; omega, fun j c hj => ?_⟩
        obtain ⟨hj, hjn⟩ := getElem_drop_take hj
        refine ⟨h1 i r _ c hr' hj, _, hI.fz _ _ _ ?_, .fz (hh i r _ c hr' hj)⟩
        have := hc i r _ c hr' hj
        rw [← Nat.add_assoc] at this
        exact this
      · cases h
    · cases h
  | _ => simp [cellsAt] at h

theorem loaded {P : Program} {m : Mp} {F : Fz} {H : Heap} {w : World} (hI : Inv m F H w) {p : AV} {pv : Value} (hv : VR m F p pv) {n : Nat} {cs : List AV} (h : cellsAt H p n = some cs) {t : TypeId} {g : Bool} (hg : aggB P t = some g)
    {ti : TypeInfo} (hi : P.info? t = some ti) (hn : ti.size = n) {r : AV} (hp : pack g cs = some r) : ∃ ad u, pv = .pointer (some ad) ∧ (loadVar t ad).run P w = .ok u w ∧ VR m F r u := by
  obtain ⟨b, o, rfl, hl, hc⟩ := cellsAt_sound hI hv h
  cases g with
  | true =>
    simp [pack] at hp
    subst hp
    have hrun := run_loadCells (P := P) (w := w) ⟨b, o, none⟩ n (fun j => (w.cell? ⟨b, o + j, none⟩).getD undef) (fun j hj => by
      obtain ⟨_, u, hu, _⟩ := hc j cs[j] (List.getElem?_eq_getElem (by omega))
      rw [addr_add, hu]; rfl)
    refine ⟨_, .agg ((List.range n).map fun j => (w.cell? ⟨b, o + j, none⟩).getD undef).toArray, rfl, ?_, ?_⟩
    · simp only [loadVar, Sem.run_bind, aggB_some hg, Result.andThen_ok, Sem.run_ite, if_true, run_sizeOf' hi, hn, hrun]
      rfl
    · refine .agg (by simp [hl]) (fun i c hi => (hc i c hi).1) (fun i c hi => ?_)
      obtain ⟨_, u, hu, hr⟩ := hc i c hi
      have hlt : i < n := by rw [← hl]; exact (List.getElem?_eq_some_iff.1 hi).1
      have : ((List.range n).map fun j => (w.cell? ⟨b, o + j, none⟩).getD undef).toArray.getD i undef = u := by
        refine getD_of ?_
        simp [hlt, hu]
      rw [this]
      exact hr
  | false =>
    simp only [pack] at hp
    split at hp
    · cases ‹false = true›
    · split at hp
      · rename_i c
        cases hp
        obtain ⟨_, u, hu, hr⟩ := hc 0 r rfl
        simp only [Nat.add_zero] at hu
        refine ⟨_, _, rfl, ?_, hr⟩
        simp only [loadVar, Sem.run_bind, aggB_some hg, Result.andThen_ok]
        simp [hu]
      · cases hp

theorem sim_load {P : Program} {m : Mp} {F : Fz} {H : Heap} {w : World} {e : Env} {a : Act} (hs : Sit m F H w e a) {co : Oper} {t : TypeId} {x : Operand} (ho : co.op = .load t x) {g : Bool} (hg : aggB P t = some g) {i : Nat × Nat × List AV} (hi : infoA P t = some i)
    {cs : List AV} (h : cellsAt H (ev e x) i.1 = some cs) {r : AV} (hp : pack g cs = some r) {al : Option Nat} : OpOk P co a al m F w r H := by
  obtain ⟨ti, z, h1, h2, rfl, h4, h5, _⟩ := infoA_some hi
  obtain ⟨ad, u, he, hr, hv⟩ := loaded hs.inv (hs.ev x) h hg h1 rfl hp
  refine OpOk.still hs.inv ?_ hv
  simp [execOp, ho, Instr.loadAt, he, Instr.sureAddr, hr]
end Go.VI
