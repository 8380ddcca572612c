/- VI, part L: literals, make, slices' pieces, lengths. -/
import Derived.Test.YtkjeigdiojdfnaaVK
set_option linter.unusedVariables false
set_option linter.unusedSimpArgs false
namespace Go.VI

section
variable {P : Program} {m : Mp} {F : Fz} {H : Heap} {w : World} {e : Env} {a : Act} {co : Oper} {nid : Nat} {al : Option Nat}

theorem run_mapM_list {α β : Type} {f : α → Sem β} {g : α → β} {w : World} : ∀ (l : List α), (∀ x ∈ l, (f x).run P w = .ok (g x) w) → (l.mapM f).run P w = .ok (l.map g) w
  | [], _ => by simp
  | x :: l, h => by
    rw [List.mapM_cons]
    simp only [Sem.run_bind, h x List.mem_cons_self, Result.andThen_ok, run_mapM_list l (fun y hy => h y (List.mem_cons_of_mem _ hy)), Sem.run_pure]
    rfl
theorem run_mapM_arr {α β : Type} {f : α → Sem β} {g : α → β} {w : World} (l : Array α) (h : ∀ x ∈ l.toList, (f x).run P w = .ok (g x) w) : (l.mapM f).run P w = .ok (l.map g) w := by
  rw [Array.mapM_eq_mapM_toList]
  simp only [Sem.run_map, run_mapM_list l.toList h, Result.andThen_ok]
  congr 1
  apply Array.ext'
  simp

/-- Cells laid into an array. -/
def lay (cs : Array Value) (off : Nat) (us : Array Value) : Array Value := us.zipIdx.foldl (fun cs (c, j) => cs.setIfInBounds (off + j) c) cs
theorem lay_spec (off : Nat) (us : List Value) : ∀ (k : Nat) (cs : Array Value), ((us.zipIdx k).foldl (fun cs (c, j) => cs.setIfInBounds (off + j) c) cs).size = cs.size ∧
    ∀ q, off + k + us.length ≤ cs.size → ((us.zipIdx k).foldl (fun cs (c, j) => cs.setIfInBounds (off + j) c) cs).getD q undef = if off + k ≤ q ∧ q < off + k + us.length then us.getD (q - (off + k)) undef else cs.getD q undef := by
  induction us with
  | nil => intro k cs; exact ⟨rfl, fun q _ => by rw [if_neg (by simp only [List.length_nil]; omega)]; rfl⟩
  | cons u us ih =>
    intro k cs
    obtain ⟨h1, h2⟩ := ih (k + 1) (cs.setIfInBounds (off + k) u)
    simp only [List.zipIdx_cons, List.foldl_cons, List.length_cons]
    refine ⟨by rw [h1]; simp, fun q hq => ?_⟩
    rw [h2 q (by simp; omega)]
    by_cases hq1 : q = off + k
    · subst hq1
      rw [if_neg (by omega), if_pos ⟨by omega, by omega⟩]
      have : off + k < cs.size := by omega
      simp [this]
    · by_cases hq2 : off + (k + 1) ≤ q ∧ q < off + (k + 1) + us.length
      · rw [if_pos hq2, if_pos ⟨by omega, by omega⟩]
        rw [show q - (off + k) = (q - (off + (k + 1))) + 1 by omega]
        rfl
      · rw [if_neg hq2, if_neg (by omega)]
        simp only [Array.getD_eq_getD_getElem?]
        rw [Array.getElem?_setIfInBounds_ne (fun h => hq1 h.symm)]
theorem lay_size (cs : Array Value) (off : Nat) (us : Array Value) : (lay cs off us).size = cs.size := by
  unfold lay
  rw [← Array.foldl_toList, Array.toList_zipIdx]
  exact (lay_spec off us.toList 0 cs).1
theorem lay_getD (cs : Array Value) (off : Nat) (us : Array Value) (h : off + us.size ≤ cs.size) (q : Nat) : (lay cs off us).getD q undef = if off ≤ q ∧ q < off + us.size then us.getD (q - off) undef else cs.getD q undef := by
  unfold lay
  rw [← Array.foldl_toList, Array.toList_zipIdx]
  have := (lay_spec off us.toList 0 cs).2 q (by simpa using h)
  simp only [Nat.add_zero, Array.length_toList] at this
  rw [this]
  simp [List.getD_eq_getElem?_getD, Array.getD_eq_getD_getElem?]

theorem fill_sound (place : Nat → Option (Nat × Nat)) : ∀ (ps : List (Nat × Operand)) (L : List (Nat × Nat × Operand)) (z cs : List AV) (zs : Array Value), Sit m F H w e a →
    L.length = ps.length → (∀ (i : Nat) (p : Nat × Operand) (q : Nat × Nat × Operand), ps[i]? = some p → L[i]? = some q → place p.1 = some (q.1, q.2.1) ∧ p.2 = q.2.2) →
    zs.size = z.length → (∀ (i : Nat) (c : AV), z[i]? = some c → c.one = true ∧ VR m F c (zs.getD i undef)) →
    fillA z (L.map fun (o, n, x) => (o, n, ev e x)) = some cs →
    ∃ us, Instr.fill place zs (ps.map fun (i, x) => (i, a.eval x)) = some us ∧ us.size = cs.length ∧ ∀ (i : Nat) (c : AV), cs[i]? = some c → c.one = true ∧ VR m F c (us.getD i undef)
  | [], L, z, cs, zs, hs, hl, hp, hz, hc, h => by
    have : L = [] := List.eq_nil_of_length_eq_zero (by simpa using hl)
    subst this
    simp [fillA] at h
    subst h
    exact ⟨zs, rfl, hz, hc⟩
  | (pi, px) :: ps, [], z, cs, zs, hs, hl, hp, hz, hc, h => by simp at hl
  | (pi, px) :: ps, (off, n, qx) :: L, z, cs, zs, hs, hl, hp, hz, hc, h => by
    obtain ⟨h1, h2⟩ := hp 0 _ _ rfl rfl
    simp only at h1 h2
    subst h2
    simp only [List.map_cons, fillA] at h
    split at h
    rotate_left
    · cases h
    rename_i hh
    obtain ⟨hn, hle, ho⟩ := hh
    obtain ⟨hvl, hvc⟩ := vr_cells (hs.ev px) ho
    have hsz : off + (a.eval px).cells.size ≤ zs.size := by omega
    obtain ⟨us, hu, hul, huc⟩ := fill_sound place ps L (splice z off (ev e px).cells) cs (lay zs off (a.eval px).cells) hs (by simpa using hl) (fun i p q hp' hq' => hp (i + 1) p q (by simpa using hp') (by simpa using hq'))
      (by rw [lay_size, length_splice (by omega)]; exact hz) (fun i c hi => by
        rw [getElem?_splice (by omega)] at hi
        rw [lay_getD _ _ _ hsz]
        split at hi
        · rename_i hr
          rw [if_pos ⟨hr.1, by omega⟩]
          exact hvc _ c hi
        · rename_i hr
          rw [if_neg (by omega)]
          exact hc i c hi) h
    refine ⟨us, ?_, hul, huc⟩
    simp only [List.map_cons, Instr.fill, h1]
    rw [if_neg (by simp; omega)]
    exact hu

theorem partsS_spec {fs : Array Field} : ∀ {ps : List (Nat × Operand)} {L : List (Nat × Nat × Operand)}, partsS P fs ps = some L → L.length = ps.length ∧
    ∀ (i : Nat) (p : Nat × Operand) (q : Nat × Nat × Operand), ps[i]? = some p → L[i]? = some q → (∃ f ti, fs[p.1]? = some f ∧ P.info? f.type = some ti ∧ q.1 = f.offset ∧ q.2.1 = ti.size) ∧ p.2 = q.2.2
  | [], L, h => by simp [partsS] at h; subst h; simp
  | (k, x) :: ps, L, h => by
    simp only [partsS, Option.bind_eq_some_iff, Option.map_eq_some_iff] at h
    obtain ⟨f, hf, ti, hti, r, hr, rfl⟩ := h
    obtain ⟨h1, h2⟩ := partsS_spec hr
    refine ⟨by simp [h1], fun i p q hp hq => ?_⟩
    cases i with
    | zero => simp at hp hq; subst hp; subst hq; exact ⟨⟨f, ti, hf, hti, rfl, rfl⟩, rfl⟩
    | succ i => exact h2 i p q (by simpa using hp) (by simpa using hq)
theorem partsA_spec {sz : Nat} : ∀ {ps : List (Nat × Operand)}, (partsA sz ps).length = ps.length ∧ ∀ (i : Nat) (p : Nat × Operand) (q : Nat × Nat × Operand), ps[i]? = some p → (partsA sz ps)[i]? = some q → (q.1 = p.1 * sz ∧ q.2.1 = sz) ∧ p.2 = q.2.2
  | [] => by simp [partsA]
  | (k, x) :: ps => by
    obtain ⟨h1, h2⟩ := partsA_spec (sz := sz) (ps := ps)
    refine ⟨by simp [partsA, h1], fun i p q hp hq => ?_⟩
    cases i with
    | zero => simp [partsA] at hp hq; subst hp; subst hq; exact ⟨⟨rfl, rfl⟩, rfl⟩
    | succ i => exact h2 i p q (by simpa using hp) (by simpa [partsA] using hq)

theorem zero_ok {z : Value} (h : ∀ x ∈ z.cells.toList, isSc x = true) (i : Nat) (c : AV) (hc : (z.cells.toList.map AV.sc)[i]? = some c) : c.one = true ∧ VF F c (z.cells.getD i undef) := by
  rw [List.getElem?_map, Option.map_eq_some_iff] at hc
  obtain ⟨x, hx, rfl⟩ := hc
  rw [getD_of (by simpa using hx)]
  exact ⟨rfl, .sc (h x (List.mem_of_getElem? hx))⟩

theorem sim_build (hs : Sit m F H w e a) {ty t : TypeId} {parts : Array (Nat × Operand)} (ho : co.op = .build t parts) {ao : AOp} (hc : compOp P ty (.build t parts) = some ao) {v : AV} {H' : Heap} (h : opS nid e H ao = some (v, H')) : OpOk P co a al m F w v H' := by
  simp only [compOp, Option.bind_eq_some_iff] at hc
  obtain ⟨i, hi, hc⟩ := hc
  obtain ⟨ti, z, i1, i2, rfl, i3, i4, _⟩ := infoA_some hi
  split at hc
  · rename_i fs hu
    split at hc
    rotate_left
    · cases hc
    rename_i hall
    simp only [Option.map_eq_some_iff] at hc
    obtain ⟨ps, hps, rfl⟩ := hc
    simp only [opS, Option.map_eq_some_iff] at h
    obtain ⟨cs, hcs, h⟩ := h
    cases h
    obtain ⟨p1, p2⟩ := partsS_spec hps
    rw [List.all_eq_true] at hall
    let g : Field → Nat × Nat := fun f => (f.offset, ((P.info? f.type).map (·.size)).getD 0)
    have hmap := run_mapM_arr (P := P) (w := w) (f := fun f : Field => (do pure (f.offset, ← sizeOf f.type) : Sem (Nat × Nat))) (g := g) fs (fun f hf => by
      obtain ⟨tj, htj⟩ := Option.isSome_iff_exists.1 (hall f hf)
      simp [run_sizeOf' htj, g, htj])
    obtain ⟨us, hu', hl, hv⟩ := fill_sound (m := m) (F := F) (H := H) (w := w) (e := e) (a := a) ((fs.map g)[·]?) parts.toList ps (z.cells.toList.map .sc) cs z.cells hs p1 (fun k p q hp hq => by
      obtain ⟨⟨f, tj, b1, b2, b3, b4⟩, b5⟩ := p2 k p q hp hq
      refine ⟨?_, b5⟩
      simp [b1, g, b2, b3, b4]) (by simp) (fun k c hk => ⟨(zero_ok (F := F) i3 k c hk).1, .fz (zero_ok i3 k c hk).2⟩) hcs
    refine OpOk.still hs.inv ?_ (.agg hl (fun k c hk => (hv k c hk).1) (fun k c hk => (hv k c hk).2))
    have hparts : (parts.map fun (i, x) => (i, a.eval x)).toList = parts.toList.map fun (i, x) => (i, a.eval x) := by simp
    simp only [execOp, ho, Instr.build, Sem.run_bind, run_zero' i1 i2, run_under' hu, Result.andThen_ok, hmap, hparts, hu', Sem.run_pure]
  · rename_i n el hu
    simp only [Option.map_eq_some_iff] at hc
    obtain ⟨j, hj, rfl⟩ := hc
    obtain ⟨tj, zj, j1, j2, rfl, _⟩ := infoA_some hj
    simp only [opS, Option.map_eq_some_iff] at h
    obtain ⟨cs, hcs, h⟩ := h
    cases h
    obtain ⟨p1, p2⟩ := partsA_spec (sz := tj.size) (ps := parts.toList)
    obtain ⟨us, hu', hl, hv⟩ := fill_sound (m := m) (F := F) (H := H) (w := w) (e := e) (a := a) (fun k => some (k * tj.size, tj.size)) parts.toList (partsA tj.size parts.toList) (z.cells.toList.map .sc) cs z.cells hs p1 (fun k p q hp hq => by
      obtain ⟨⟨b1, b2⟩, b3⟩ := p2 k p q hp hq
      exact ⟨by rw [b1, b2], b3⟩) (by simp) (fun k c hk => ⟨(zero_ok (F := F) i3 k c hk).1, .fz (zero_ok i3 k c hk).2⟩) hcs
    refine OpOk.still hs.inv ?_ (.agg hl (fun k c hk => (hv k c hk).1) (fun k c hk => (hv k c hk).2))
    have hparts : (parts.map fun (i, x) => (i, a.eval x)).toList = parts.toList.map fun (i, x) => (i, a.eval x) := by simp
    simp only [execOp, ho, Instr.build, Sem.run_bind, run_zero' i1 i2, run_under' hu, Result.andThen_ok, run_sizeOf' j1, hparts, hu', Sem.run_pure]
  · cases hc
end
end Go.VI
