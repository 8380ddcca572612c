/- VI, part J: operations that only compute. -/
import Derived.Test.YtkjeigdiojdfnaaVH
import Derived.Laws.Slices
set_option linter.unusedVariables false
set_option linter.unusedSimpArgs false
namespace Go.VI

section
variable {P : Program} {m : Mp} {F : Fz} {H : Heap} {w : World} {e : Env} {a : Act} {co : Oper} {nid : Nat} {al : Option Nat}

theorem sim_mov (hs : Sit m F H w e a) {x : Operand} (ho : co.op = .move x ∨ co.op = .assign x) : OpOk P co a al m F w (ev e x) H := by
  refine OpOk.still hs.inv ?_ (hs.ev x)
  rcases ho with ho | ho <;> simp [execOp, ho]

theorem sim_pick (hs : Sit m F H w e a) {c x y : Operand} (ho : co.op = .pick c x y) {t : Bool} (h : toB (ev e c) = some t) : OpOk P co a al m F w (if t then ev e x else ev e y) H := by
  have hc := toB_some h (hs.ev c)
  cases t
  · exact OpOk.still (u := a.eval y) hs.inv (by simp [execOp, ho, hc, asBool]) (hs.ev y)
  · exact OpOk.still (u := a.eval x) hs.inv (by simp [execOp, ho, hc, asBool]) (hs.ev x)

theorem sim_ext (hs : Sit m F H w e a) {x : Operand} {i : Nat} (ho : co.op = .extract x i) {vs : List AV} (hx : ev e x = .tup vs) {v : AV} (h : vs[i]? = some v) : OpOk P co a al m F w v H := by
  obtain ⟨us, he, hl, hv⟩ := vr_tup (hx ▸ hs.ev x)
  have hlt : i < us.size := by rw [hl]; exact (List.getElem?_eq_some_iff.1 h).1
  refine OpOk.still hs.inv ?_ (hv i v h)
  simp [execOp, ho, he, Instr.extract, hlt]

theorem sim_mkfn (hs : Sit m F H w e a) {f : Fn} {first caps : Array Operand} (ho : co.op = .makeFunc f first caps) : OpOk P co a al m F w (.fn f (first.toList.map (ev e)) (caps.toList.map (ev e))) H := by
  refine OpOk.still (u := .func f (first.map a.eval) (caps.map a.eval)) hs.inv (by simp [execOp, ho, Instr.makeFunc]) (.fn (by simp) (by simp) (fun i c hc => ?_) (fun i c hc => ?_))
  all_goals
    rw [List.getElem?_map, Option.map_eq_some_iff] at hc
    obtain ⟨x, hx, rfl⟩ := hc
    rw [getD_of (v := a.eval x) (by simpa using ⟨x, by simpa using hx, rfl⟩)]
    exact hs.ev x

theorem sim_nilck (hs : Sit m F H w e a) {x : Operand} (ho : co.op = .nilCheck x) {v : AV} {H' : Heap} (h : opS nid e H (.nilck x) = some (v, H')) : OpOk P co a al m F w v H' := by
  have hv := hs.ev x
  simp only [opS] at h
  split at h
  · rename_i i j k hx
    cases h
    rw [hx] at hv
    obtain ⟨mb, hm, he⟩ := vr_ptr hv
    exact OpOk.still (u := a.eval x) hs.inv (by simp [execOp, ho, he]) hv
  · rename_i i j k hx
    cases h
    rw [hx] at hv
    have hp := vr_pim hv
    refine OpOk.still (u := a.eval x) hs.inv ?_ hv
    generalize hq : a.eval x = u at hp ⊢
    cases hp
    simp [execOp, *]
  · rename_i f b c hx
    cases h
    rw [hx] at hv
    obtain ⟨vf, vc, he, _⟩ := vr_fn hv
    exact OpOk.still (u := a.eval x) hs.inv (by simp [execOp, ho, he]) hv
  · cases h

theorem vr_fldS {m : Mp} {F : Fz} {cs : List AV} {us : Array Value} (hl : us.size = cs.length) (h1 : ∀ (i : Nat) (c : AV), cs[i]? = some c → c.one = true) (h : ∀ (i : Nat) (c : AV), cs[i]? = some c → VR m F c (us.getD i undef))
    {off n : Nat} (hle : off + n ≤ cs.length) {P : Program} {w : World} {t : TypeId} {g : Bool} (hg : aggB P t = some g) {ti : TypeInfo} (hi : P.info? t = some ti) (hn : ti.size = n) {r : AV} (hp : pack g ((cs.drop off).take n) = some r) :
    ∃ u, (part t us off).run P w = .ok u w ∧ VR m F r u := by
  cases g with
  | true =>
    simp [pack] at hp
    subst hp
    refine ⟨.agg (us.extract off (off + n)), ?_, .agg (by simp; omega) (fun i c hc => h1 _ c (getElem_drop_take hc).1) (fun i c hc => ?_)⟩
    · simp only [part, Sem.run_bind, aggB_some hg, Result.andThen_ok, Sem.run_ite, if_true, run_sizeOf' hi, hn]
      rfl
    · obtain ⟨hc, hlt⟩ := getElem_drop_take hc
      have := h _ c hc
      have hu : off + i < us.size := by rw [hl]; exact (List.getElem?_eq_some_iff.1 hc).1
      rw [getD_of (v := us.getD (off + i) undef)]
      · exact this
      · simp [Array.getElem?_extract, hu]
        omega
  | false =>
    simp only [pack] at hp
    split at hp
    · cases ‹false = true›
    · split at hp
      · rename_i c he
        cases hp
        have h0 : ((cs.drop off).take n)[0]? = some r := by rw [he]; rfl
        have hc := (getElem_drop_take h0).1
        have hu : off < us.size := by have := (List.getElem?_eq_some_iff.1 hc).1; omega
        refine ⟨us.getD off undef, ?_, h _ r hc⟩
        simp only [part, Sem.run_bind, aggB_some hg, Result.andThen_ok]
        simp [hu]
      · cases hp

theorem sim_field (hs : Sit m F H w e a) {t : TypeId} {x : Operand} {i : Nat} (ho : co.op = .field t x i) {fs : Array Field} (hf : fieldsA P t = some fs) {f : Field} (hfi : fs[i]? = some f) {g : Bool} (hg : aggB P f.type = some g) {j : Nat × Nat × List AV} (hj : infoA P f.type = some j)
    {cs : List AV} (hx : ev e x = .agg cs) (hle : f.offset + j.1 ≤ cs.length) {r : AV} (hp : pack g ((cs.drop f.offset).take j.1) = some r) : OpOk P co a al m F w r H := by
  obtain ⟨ti, z, i1, i2, rfl, _⟩ := infoA_some hj
  obtain ⟨us, he, hl, h1, hv⟩ := vr_agg (hx ▸ hs.ev x)
  obtain ⟨u, hr, hu⟩ := vr_fldS (w := w) hl h1 hv hle hg i1 rfl hp
  refine OpOk.still hs.inv ?_ hu
  simp [execOp, ho, Instr.field, run_under' (fieldsA_some hf), hfi, he, asAgg, hr]

theorem sim_index (hs : Sit m F H w e a) {t : TypeId} {x ix : Operand} (ho : co.op = .index t x ix) {n : Nat} {el : TypeId} (hu : P.underlying t = some (.array n el)) {g : Bool} (hg : aggB P el = some g) {j : Nat × Nat × List AV} (hj : infoA P el = some j)
    {k : Int} (hk : toI (ev e ix) = some k) {cs : List AV} (hx : ev e x = .agg cs) (hb : 0 ≤ k ∧ k < n ∧ k.toNat * j.1 + j.1 ≤ cs.length) {r : AV} (hp : pack g ((cs.drop (k.toNat * j.1)).take j.1) = some r) : OpOk P co a al m F w r H := by
  obtain ⟨ti, z, i1, i2, rfl, _⟩ := infoA_some hj
  obtain ⟨us, he, hl, h1, hv⟩ := vr_agg (hx ▸ hs.ev x)
  obtain ⟨kk, hk'⟩ := toI_some hk (hs.ev ix)
  obtain ⟨u, hr, hu'⟩ := vr_fldS (w := w) hl h1 hv hb.2.2 hg i1 rfl hp
  refine OpOk.still hs.inv ?_ hu'
  simp [execOp, ho, Instr.index, run_under' hu, hk', asIntOf, he, hb.1, hb.2.1, run_sizeOf' i1, hr]

theorem sim_faddr (hs : Sit m F H w e a) {t : TypeId} {x : Operand} {i : Nat} (ho : co.op = .fieldAddr t x i) {fs : Array Field} (hf : fieldsA P t = some fs) {f : Field} (hfi : fs[i]? = some f) {j : Nat × Nat × List AV} (hj : infoA P f.type = some j)
    {v : AV} {H' : Heap} (h : opS nid e H (.faddr f.offset x) = some (v, H')) : OpOk P co a al m F w v H' := by
  obtain ⟨ti, z, i1, i2, rfl, _, _, hpos, _⟩ := infoA_some hj
  have hv := hs.ev x
  have hrun : ∀ b o, a.eval x = .pointer (some ⟨b, o, none⟩) → (execOp a.eval co).run P w = .ok (.value (.pointer (some ⟨b, o + f.offset, none⟩))) w := by
    intro b o he
    simp only [execOp, ho, Instr.fieldAt, Sem.run_bind, run_under' (fieldsA_some hf), Result.andThen_ok, hfi, he, Instr.sureAddr, fieldPlace, run_sizeOf' i1, Sem.run_pure]
    rw [if_neg (by omega)]
    simp [addr_add]
  simp only [opS] at h
  split at h
  · rename_i id k o hx
    cases h
    rw [hx] at hv
    obtain ⟨mb, hm, he⟩ := vr_ptr hv
    refine OpOk.still hs.inv (hrun _ _ he) ?_
    have := VR.ptr (m := m) (F := F) (i := k) (off := o + f.offset) hm
    simpa [Nat.add_assoc] using this
  · rename_i rows k o hx
    cases h
    rw [hx] at hv
    have hp := vr_pim hv
    generalize hu : a.eval x = u at hp hrun
    cases hp with
    | pim cv hr h1 hc hh =>
      refine OpOk.still hs.inv (hrun _ _ rfl) (.fz ?_)
      have := VF.pim (F := F) (i0 := k) (off := o + f.offset) cv hr h1 hc hh
      simpa [Nat.add_assoc] using this
  · cases h

theorem rowSz_some {id sz : Nat} (h : rowSz H id = some sz) : ∃ fz rs, H.get id = some (.row fz sz rs) := by
  unfold rowSz at h
  split at h
  · rename_i fz sz' rs hg
    cases h
    exact ⟨_, _, hg⟩
  · cases h

theorem sim_iaddr (hs : Sit m F H w e a) {t : TypeId} {x ix : Operand} (ho : co.op = .indexAddr t x ix) {arr : Option Nat} {el : TypeId} (hu : P.underlying t = some (match arr with | none => .slice el | some n => .array n el)) {j : Nat × Nat × List AV} (hj : infoA P el = some j)
    {k : Int} (hk : toI (ev e ix) = some k) {v : AV} (h : iaddrA H arr j.1 (ev e x) k = some v) : OpOk P co a al m F w v H := by
  obtain ⟨ti, z, i1, i2, rfl, _⟩ := infoA_some hj
  obtain ⟨kk, hk'⟩ := toI_some hk (hs.ev ix)
  have hv := hs.ev x
  unfold iaddrA at h
  split at h
  · rename_i rows hx
    split at h
    rotate_left
    · cases h
    rename_i h0
    split at h
    rotate_left
    · cases h
    rename_i r hr0
    split at h
    rotate_left
    · cases h
    rename_i hsz
    cases h
    rw [hx] at hv
    have hp := vr_lst hv
    generalize hq : a.eval x = u at hp
    cases hp with
    | lst cv hcap hA hr h1 hc hh =>
      rename_i A cap sz b o
      have hlt := (List.getElem?_eq_some_iff.1 hr0).1
      have hne : rows ≠ [] := by intro h0; subst h0; simp at hlt
      obtain rfl : sz = ti.size := (hr _ r hr0).symm.trans hsz
      refine OpOk.still (u := .pointer (some ⟨b, o + k.toNat * ti.size + 0, none⟩)) hs.inv ?_ (.fz (.pim cv hr h1 hc hh))
      have hk2 : k < rows.length := by omega
      simp [execOp, ho, Instr.indexAt, hk', asIntOf, run_under' hu, hq, hA hne, h0, hk2, run_sizeOf' i1, addr_add]
  · rename_i id off len hx
    split at h
    rotate_left
    · cases h
    rename_i hb
    cases h
    rw [hx] at hv
    obtain ⟨mb, cap, hm, he, hcap, hlen⟩ := vr_sl hv
    obtain ⟨fz, rs, hg⟩ := rowSz_some hb.2.2
    obtain ⟨vs, _, hsz, _⟩ := hs.inv.blk id mb _ hm hg
    refine OpOk.still (u := .pointer (some ⟨mb.cb, mb.base + (off + k.toNat) * mb.sz + 0, none⟩)) hs.inv ?_ (.ptr hm)
    simp [execOp, ho, Instr.indexAt, hk', asIntOf, run_under' hu, he, hb.1, hb.2.1, run_sizeOf' i1, addr_add, hsz, Nat.add_mul, Nat.add_assoc]
  · rename_i n id i0 off hx
    split at h
    rotate_left
    · cases h
    rename_i hb
    cases h
    rw [hx] at hv
    obtain ⟨mb, hm, he⟩ := vr_ptr hv
    refine OpOk.still (u := .pointer (some ⟨mb.cb, mb.base + i0 * mb.sz + (off + k.toNat * ti.size), none⟩)) hs.inv ?_ (.ptr hm)
    simp [execOp, ho, Instr.indexAt, hk', asIntOf, run_under' hu, he, Instr.sureAddr, hb.1, hb.2, run_sizeOf' i1, addr_add, Nat.add_assoc]
  · rename_i n rows i0 off hx
    split at h
    rotate_left
    · cases h
    rename_i hb
    cases h
    rw [hx] at hv
    have hp := vr_pim hv
    generalize hq : a.eval x = u at hp
    cases hp with
    | pim cv hr h1 hc hh =>
      rename_i sz b o
      refine OpOk.still (u := .pointer (some ⟨b, o + i0 * sz + (off + k.toNat * ti.size), none⟩)) hs.inv ?_ (.fz (.pim cv hr h1 hc hh))
      simp [execOp, ho, Instr.indexAt, hk', asIntOf, run_under' hu, hq, Instr.sureAddr, hb.1, hb.2, run_sizeOf' i1, addr_add, Nat.add_assoc]
  · cases h
end
end Go.VI
