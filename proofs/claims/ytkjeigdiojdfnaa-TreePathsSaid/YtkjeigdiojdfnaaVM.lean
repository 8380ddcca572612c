/- VI, part M: slices made, cut, measured. -/
import Derived.Test.YtkjeigdiojdfnaaVL
import Derived.IntWalk
set_option linter.unusedVariables false
set_option linter.unusedSimpArgs false
namespace Go.VI

section
variable {P : Program} {m : Mp} {F : Fz} {H : Heap} {w : World} {e : Env} {a : Act} {co : Oper} {nid : Nat} {al : Option Nat}

/-- A row of cells that reads as rows. -/
structure RowsR (F : Fz) (sz : Nat) (rs : List (List AV)) (vs : Array Value) : Prop where
  size : vs.size = rs.length * sz
  len : ∀ (i : Nat) (r : List AV), rs[i]? = some r → r.length = sz
  cell : ∀ (i : Nat) (r : List AV) (j : Nat) (c : AV), rs[i]? = some r → r[j]? = some c → c.one = true ∧ VF F c (vs.getD (i * sz + j) undef)
theorem RowsR.mono {F F' : Fz} {sz : Nat} {rs : List (List AV)} {vs : Array Value} (h : RowsR F sz rs vs) (hF : FLe F F') : RowsR F' sz rs vs :=
  ⟨h.size, h.len, fun i r j c hr hc => ⟨(h.cell i r j c hr hc).1, (h.cell i r j c hr hc).2.mono hF⟩⟩

theorem ij_lt {i n j sz : Nat} (hi : i < n) (hj : j < sz) : i * sz + j < n * sz := by
  have : (i + 1) * sz ≤ n * sz := Nat.mul_le_mul_right _ hi
  rw [Nat.add_mul, Nat.one_mul] at this
  omega
theorem ij_ne {i k j sz : Nat} (hik : i ≠ k) (hj : j < sz) : k * sz + j < i * sz ∨ i * sz + sz ≤ k * sz + j := by
  rcases Nat.lt_or_ge k i with h | h
  · left
    have : (k + 1) * sz ≤ i * sz := Nat.mul_le_mul_right _ h
    rw [Nat.add_mul, Nat.one_mul] at this
    omega
  · right
    have : (i + 1) * sz ≤ k * sz := Nat.mul_le_mul_right _ (by omega)
    rw [Nat.add_mul, Nat.one_mul] at this
    omega

/-- A new row. -/
theorem newRowA (hn : Free m H nid) (hI : Inv m F H w) {wd : World} (hd : wd.heap = w.heap) (ht : wd.tape = w.tape) (hos : wd.os = w.os) (hout : wd.output = w.output) (sz : Nat) (rs : List (List AV)) (cn : Nat) (vs : Array Value) (t : TypeId) (hle : rs.length ≤ cn)
    (hsz : cn * sz ≤ vs.size) (hl : ∀ (i : Nat) (r : List AV), rs[i]? = some r → r.length = sz)
    (hc : ∀ (i : Nat) (r : List AV) (j : Nat) (c : AV), rs[i]? = some r → r[j]? = some c → c.one = true ∧ VF F c (vs.getD (i * sz + j) undef)) :
    ∃ m', VR m' F (.sl nid 0 rs.length) (.slice (some ⟨w.heap.size, 0, none⟩) rs.length cn) ∧ Inv m' F (H.put nid (.row false sz rs)) (wd.alloc (.cells vs t)) ∧ Ext m F w m' F (wd.alloc (.cells vs t)) ∧ Dom (some nid) m m' := by
  obtain ⟨h1, h2⟩ := Inv.push hn hI hd ht hos hout (.cells vs t) (.row false sz rs) 0 sz cn
    ⟨vs, by have := cb_alloc wd vs t; rw [hd] at this; exact this, rfl, hle, by simpa using hsz, hl, fun i r j c hr hj => by simpa using hc i r j c hr hj, fun _ o => hI.fz_new (Nat.le_refl _) o, by simp⟩
  refine ⟨_, ?_, h1, h2, Dom.mset _ _ _⟩
  have : VR (mset m nid ⟨w.heap.size, 0, sz, cn⟩) F (.sl nid 0 rs.length) (.slice (some ⟨w.heap.size, 0 + 0 * sz, none⟩) rs.length cn) := .sl (mset_self _ _ _) (by simp) hle
  simpa using this

theorem fillR_sound {sz : Nat} : ∀ (ps : List (Nat × Operand)) (F : Fz) (H H' : Heap) (rs rs' : List (List AV)) (zs : Array Value), Inv m F H w → EnvR m F e a.tmps → RowsR F sz rs zs →
    fillR sz rs H (ps.map fun (i, x) => (i, ev e x)) = some (rs', H') →
    ∃ us F', Instr.fill (fun i => some (i * sz, sz)) zs (ps.map fun (i, x) => (i, a.eval x)) = some us ∧ FrzOk m F H w F' H' ∧ RowsR F' sz rs' us ∧ rs'.length = rs.length
  | [], F, H, H', rs, rs', zs, hI, hE, hr, h => by
    simp [fillR] at h
    obtain ⟨rfl, rfl⟩ := h
    exact ⟨zs, F, rfl, FrzOk.refl hI, hr, rfl⟩
  | (pi, px) :: ps, F, H, H', rs, rs', zs, hI, hE, hr, h => by
    simp only [List.map_cons, fillR] at h
    split at h
    rotate_left
    · cases h
    rename_i hh
    obtain ⟨hn, hi, ho⟩ := hh
    simp only [Option.bind_eq_some_iff] at h
    obtain ⟨⟨cs, H1⟩, hc1, h⟩ := h
    have hs : Sit m F H w e a := ⟨hI, hE⟩
    obtain ⟨F1, o1, hl1, hcs⟩ := frzCells_sound hI (hs.ev px) ho hc1
    obtain ⟨hvl, _⟩ := vr_cells (hs.ev px) ho
    have hsz : pi * sz + (a.eval px).cells.size ≤ zs.size := by
      have : (pi + 1) * sz ≤ rs.length * sz := Nat.mul_le_mul_right _ hi
      rw [Nat.add_mul, Nat.one_mul] at this
      rw [hr.size]
      omega
    have hr1 : RowsR F1 sz (rs.set pi cs) (lay zs (pi * sz) (a.eval px).cells) := by
      refine ⟨by rw [lay_size, hr.size]; simp, fun i r hir => ?_, fun i r j c hir hj => ?_⟩
      · rw [List.getElem?_set] at hir
        by_cases hk : pi = i
        · subst hk
          rw [if_pos rfl, if_pos hi] at hir
          cases hir
          omega
        · rw [if_neg hk] at hir
          exact hr.len i r hir
      · rw [lay_getD _ _ _ hsz]
        rw [List.getElem?_set] at hir
        by_cases hk : pi = i
        · subst hk
          rw [if_pos rfl, if_pos hi] at hir
          cases hir
          have hjl := (List.getElem?_eq_some_iff.1 hj).1
          rw [if_pos ⟨by omega, by omega⟩, show pi * sz + j - pi * sz = j by omega]
          exact hcs j c hj
        · rw [if_neg hk] at hir
          have hjl := (List.getElem?_eq_some_iff.1 hj).1
          rw [hr.len i r hir] at hjl
          have := ij_ne (i := pi) (k := i) hk hjl
          rw [if_neg (by omega)]
          exact ⟨(hr.cell i r j c hir hj).1, (hr.cell i r j c hir hj).2.mono o1.fr.le⟩
    obtain ⟨us, F', hu, o2, hr2, hl2⟩ := fillR_sound ps F1 H1 H' (rs.set pi cs) rs' _ o1.inv (hE.mono (MLe.refl m) o1.fr.le) hr1 h
    refine ⟨us, F', ?_, o1.trans o2, hr2, by rw [hl2]; simp⟩
    simp only [List.map_cons, Instr.fill]
    rw [if_neg (by simp; omega)]
    exact hu

theorem zrow (z : Array Value) (n sz : Nat) (hz : z.size = sz) (F : Fz) (h : ∀ x ∈ z.toList, isSc x = true) :
    RowsR F sz (List.replicate n (z.toList.map AV.sc)) ((Array.range (n * sz)).map (fun k => z[k % z.size]!)) := by
  refine ⟨by simp, fun i r hr => ?_, fun i r j c hr hc => ?_⟩
  · rw [List.getElem?_replicate] at hr
    split at hr
    · cases hr; simp [hz]
    · cases hr
  · rw [List.getElem?_replicate] at hr
    split at hr
    · rename_i hi
      cases hr
      rw [List.getElem?_map, Option.map_eq_some_iff] at hc
      obtain ⟨x, hx, rfl⟩ := hc
      have hjl := (List.getElem?_eq_some_iff.1 hx).1
      simp only [Array.length_toList, hz] at hjl
      have hlt := ij_lt hi hjl
      have hmod : (i * sz + j) % sz = j := by rw [Nat.mul_comm, Nat.mul_add_mod, Nat.mod_eq_of_lt hjl]
      have hx' : z[j]? = some x := by simpa using hx
      refine ⟨rfl, ?_⟩
      rw [getD_of (v := x)]
      · exact .sc (h x (List.mem_of_getElem? hx))
      · have hz' : j < z.size := by omega
        have hxx : z[j] = x := by
          have := Array.getElem?_eq_getElem hz'
          rw [this] at hx'
          exact Option.some.inj hx'
        have hbang : z[j]! = x := by rw [getElem!_pos z j hz']; exact hxx
        simp [hlt, hz, hmod, hbang]
    · cases hr

theorem sim_bslice (hn : Free m H nid) (hs : Sit m F H w e a) {t : TypeId} {len : Nat} {parts : Array (Nat × Operand)} (ho : co.op = .buildSlice t len parts) {el : TypeId} (hel : elemA P t = some el) {i : Nat × Nat × List AV} (hi : infoA P el = some i) (hlen : len * i.1 ≤ 16777216)
    {v : AV} {H' : Heap} (h : opS nid e H (.bslice i.1 i.2.2 len parts.toList) = some (v, H')) : OpOk P co a (some nid) m F w v H' := by
  obtain ⟨ti, z, i1, i2, rfl, i3, i4, hpos, _⟩ := infoA_some hi
  simp only [opS, Option.map_eq_some_iff] at h
  obtain ⟨⟨rs, H1⟩, hf, h⟩ := h
  cases h
  have hz := zrow z.cells len ti.size i4 F i3
  obtain ⟨us, F', hu, o1, hr, hl⟩ := fillR_sound parts.toList F H H1 _ rs _ hs.inv hs.env hz hf
  simp at hl
  obtain ⟨m', a1, a2, a3, a4⟩ := newRowA ⟨hn.no, by rw [o1.nx]; exact hn.le⟩ o1.inv (wd := w) rfl rfl rfl rfl ti.size rs rs.length us el (Nat.le_refl _) (by rw [hr.size]; exact Nat.le_refl _) hr.len hr.cell
  rw [hl] at a1
  refine ⟨_, _, m', F', _, ?_, .inl rfl, a1, a2, o1.ext.trans a3, a4⟩
  have hparts : (parts.map fun (i, x) => (i, a.eval x)).toList = parts.toList.map fun (i, x) => (i, a.eval x) := by simp
  simp only [execOp, ho, Instr.buildSlice, Sem.run_bind, run_under' (elemA_some hel), run_sizeOf' i1, Result.andThen_ok]
  rw [if_neg (show ¬ len * ti.size > 2 ^ 24 by simp; omega)]
  by_cases h0 : len * ti.size = 0
  · have hl0 : len = 0 := by
      rcases Nat.mul_eq_zero.1 h0 with h | h <;> omega
    subst hl0
    rw [if_pos (by simp)]
    have hr0 : Array.range (0 * ti.size) = #[] := by rw [Nat.zero_mul]; rfl
    have hu0 : Instr.fill (fun i => some (i * ti.size, ti.size)) (#[] : Array Value) (parts.toList.map fun (i, x) => (i, a.eval x)) = some us := by
      rw [hr0, Array.map_empty] at hu
      exact hu
    simp only [Sem.run_bind, Sem.run_pure, Result.andThen_ok, hparts, hr0, Array.map_empty, hu0]
    simp [newRow]
  · rw [if_neg h0]
    simp only [Sem.run_bind, run_zero' i1 i2, Sem.run_pure, Result.andThen_ok, hparts, hu]
    simp [newRow]

theorem sim_mkslice (hn : Free m H nid) (hs : Sit m F H w e a) {t : TypeId} {l c : Operand} (ho : co.op = .makeSlice t l c) {el : TypeId} (hel : elemA P t = some el) {i : Nat × Nat × List AV} (hi : infoA P el = some i)
    {v : AV} {H' : Heap} (h : opS nid e H (.mkslice i.1 i.2.1 i.2.2 l c) = some (v, H')) : OpOk P co a (some nid) m F w v H' := by
  obtain ⟨ti, z, i1, i2, rfl, i3, i4, hpos, _⟩ := infoA_some hi
  simp only [opS, Option.bind_eq_some_iff] at h
  obtain ⟨ln, hln, cn, hcn, h⟩ := h
  split at h
  rotate_left
  · cases h
  rename_i hh
  obtain ⟨h0, hlc, hb, hby⟩ := hh
  cases h
  obtain ⟨k1, e1⟩ := toI_some hln (hs.ev l)
  obtain ⟨k2, e2⟩ := toI_some hcn (hs.ev c)
  have hcb : cn ≤ 140737488355328 := by
    have : cn * 1 ≤ cn * ti.bytes := Int.mul_le_mul_of_nonneg_left (by omega) (by omega)
    omega
  have hw1 : IntKind.i64.wrap ln = ln := IntWalk.i64_in _ (by omega)
  have hw2 : IntKind.i64.wrap cn = cn := IntWalk.i64_in _ (by omega)
  have hz := zrow z.cells cn.toNat ti.size i4 F i3
  have hnl : ln.toNat ≤ cn.toNat := by omega
  obtain ⟨m', a1, a2, a3, a4⟩ := newRowA hn hs.inv (wd := w) rfl rfl rfl rfl ti.size (List.replicate ln.toNat (z.cells.toList.map AV.sc)) cn.toNat ((Array.range (cn.toNat * ti.size)).map (fun k => z.cells[k % z.cells.size]!)) el (by simpa using hnl)
    (by rw [hz.size]; simp) (fun i r hr => by
      rw [List.getElem?_replicate] at hr
      split at hr
      · cases hr; simp [i4]
      · cases hr) (fun i r j c hr hc => by
      rw [List.getElem?_replicate] at hr
      split at hr
      · rename_i hi
        cases hr
        exact hz.cell i _ j c (by rw [List.getElem?_replicate, if_pos (by omega)]) hc
      · cases hr)
  simp only [List.length_replicate] at a1
  refine ⟨_, _, m', F, _, ?_, .inl rfl, a1, a2, a3, a4⟩
  simp only [execOp, ho, Instr.makeSlice, Sem.run_bind, run_under' (elemA_some hel), Result.andThen_ok, e1, e2, asInt, asIntOf, Sem.run_pure, hw1, hw2, typeInfo, run_program, i1]
  have hnb : ¬ ((cn < 0 || decide ((ti.bytes : Int) * cn > 2 ^ 48)) || (decide (ln < 0) || decide (ln > cn))) = true := by
    have : (ti.bytes : Int) * cn = cn * ti.bytes := Int.mul_comm _ _
    simp
    omega
  rw [if_neg (by simpa [Bool.or_assoc] using hnb)]
  simp only [Sem.run_bind, run_askRoom, Result.andThen_ok, run_sizeOf' i1]
  by_cases hc0 : cn.toNat * ti.size = 0
  · have hc00 : cn.toNat = 0 := by
      rcases Nat.mul_eq_zero.1 hc0 with h | h <;> omega
    rw [if_pos hc0]
    have hr0 : Array.range 0 = #[] := rfl
    simp [newRow, hc00, hr0]
  · rw [if_neg hc0]
    simp [newRow, run_zero' i1 i2]
end
end Go.VI
